/- Packed: Ao, Ap, Dc, Ea, Eb, Row. No conditions. -/
import Derived.Test.YtekjfiegdpoajaaGreatDoorPb5
import Derived.Tactics2
import Derived.Defers
import Derived.Recover
import Derived.Test.YtekjfiegdpoajaaGreatDoorRows
import Derived.WalkKit
import Derived.ProofKit
import Derived.OpenShut
import Derived.ShutString
import Derived.ChangeOld
import Derived.Below
import Derived.Carry
import Derived.SizedLaws
set_option maxHeartbeats 4000000
namespace Go.Proofs.YtekjfiegdpoajaaGreatDoor.Ad
open Go Go.Proofs.YtekjfiegdpoajaaGreatDoor.Eng Go.Proofs.YtekjfiegdpoajaaGreatDoor.Mem Go.Proofs.YtekjfiegdpoajaaGreatDoor.Ly
set_option linter.unusedSimpArgs false
set_option linter.unusedVariables false
set_option maxRecDepth 100000
structure VU(c:Ai):Prop where
 cl:c.Ar.xs.length*24≤140737488351232
 pl:c.Ac.xs.length*104≤140737488351232
 hl:c.Aj.xs.length*24≤140737488351232
 ws:∀ i,i<c.Ar.xs.length→(gd c.Ar.xs i).xs.length*24≤140737488351232
 rs:∀ i,i<c.Ac.xs.length→(gd c.Ac.xs i).Ah.xs.length*32≤140737488351232
 qs:∀ i,i<c.Ac.xs.length→(gd c.Ac.xs i).Aq.xs.length*16≤140737488351232
def confS(n:Nat)(C:Ai):List Ch:=[BB n 50 1 (fun x:Sl A7=>[Sl.val x]) C.Ar.val C.Ar.xs,Ed n 52 3 A7.cells C.Ar.xs,BB n 57 8 Ap.cells C.Ac.val C.Ac.xs,Ed n 64 4 AX.cells (C.Ac.xs.map Ap.Ah),Ed n 67 2 BR.cells (C.Ac.xs.map Ap.Aq),BB n 49 3 AQ.cells C.Aj.val C.Aj.xs]
def UY(n:Nat)(W:World)(C:Ai):Prop:=∃ w0,Sat ⟨w0,W.heap.size,confS n C⟩ W
theorem ZaN{c d:Ai}(h:strip d=strip c):d.Ar.xs.length=c.Ar.xs.length∧d.Ac.xs.length=c.Ac.xs.length∧d.Aj.xs=c.Aj.xs∧(∀ i,(gd d.Ar.xs i).xs=(gd c.Ar.xs i).xs)∧∀ i,Jw (gd d.Ac.xs i)=Jw (gd c.Ac.xs i):=by
 refine⟨?_, ?_, ?_,fun i => ?_,fun i => ?_⟩
 ·rw[←Za (c:=d),h,Za]
 ·rw[←Nc (c:=d),h,Nc]
 ·show(strip d).Aj.xs=(strip c).Aj.xs
  rw[h]
 ·have e1:=Y1 (c:=d) i
  have e2:=Y1 (c:=c) i
  rw[h]at e1
  have:=congrArg Sl.xs (e1.symm.trans e2)
  exact this
 have e1:=Oa (c:=d) i
 have e2:=Oa (c:=c) i
 rw[h]at e1
 exact e1.symm.trans e2
theorem O5{c d:Ai}{n:Nat}{W W0:World}{F:Nat→Prop}(hc:Ai.ok F W0 c)(h:strip d=strip c)(ho:UY n W d):Ai.ok (New n) W d:=by
 obtain⟨w0,hs⟩:=ho
 obtain⟨h1,h2,h3,h4,h5⟩:=ZaN h
 have r1:W.ownsRow n 50 1 (.slice d.Ar.a d.Ar.xs.length d.Ar.cap) d.Ar.xs.length (d.Ar.xs.flatMap (fun x:Sl A7=>[Sl.val x])):=hs.at (i:=0) rfl
 have r2:(Ed n 52 3 A7.cells d.Ar.xs).holds W:=hs.at (i:=1) rfl
 have r3:W.ownsRow n 57 8 (.slice d.Ac.a d.Ac.xs.length d.Ac.cap) d.Ac.xs.length (d.Ac.xs.flatMap Ap.cells):=hs.at (i:=2) rfl
 have r4:(Ed n 64 4 AX.cells (d.Ac.xs.map Ap.Ah)).holds W:=hs.at (i:=3) rfl
 have r5:(Ed n 67 2 BR.cells (d.Ac.xs.map Ap.Aq)).holds W:=hs.at (i:=4) rfl
 have r6:W.ownsRow n 49 3 (.slice d.Aj.a d.Aj.xs.length d.Aj.cap) d.Aj.xs.length (d.Aj.xs.flatMap AQ.cells):=hs.at (i:=5) rfl
 have nums:=congrArg (fun c:Ai=>(c.Frames,c.DD,c.Kernel,c.Room)) h
 simp only[Prod.mk.injEq]at nums
 obtain⟨n1,n2,n3,n4⟩:=nums
 have n1':d.Frames=c.Frames:=n1
 have n2':d.DD=c.DD:=n2
 have n3':d.Kernel=c.Kernel:=n3
 have n4':d.Room=c.Room:=n4
 refine⟨by rw[n1'];exact hc.Frames,by rw[n2'];exact hc.DD,by rw[n3'];exact hc.Kernel,by rw[n4'];exact hc.Room,⟨?_,fun i hi => ?_⟩,⟨?_,fun i hi => ?_⟩,⟨?_,fun i hi => ?_⟩⟩
 ·exact Pn (fun _=>rfl) r1 (by rw[h1];exact hc.Ar.1.len)
 ·have hi':i<c.Ar.xs.length:=by omega
  refine⟨Wl (cells:=A7.cells) (hs:=d.Ar.xs) (s:=gd d.Ar.xs i) (fun _=>rfl) r2 (by rw[E5 hi];exact List.getElem_mem _) (by rw[h4];exact(hc.Ar.2 i hi').1.len),fun j hj => ?_⟩
  rw[h4]at hj ⊢
  have:=(hc.Ar.2 i hi').2 j hj
  exact⟨this.Partition,this.Bq,this.AC⟩
 ·exact Pn (fun _=>rfl) r3 (by rw[h2];exact hc.Ac.1.len)
 ·have hi':i<c.Ac.xs.length:=by omega
  have hp:=hc.Ac.2 i hi'
  have e:=h5 i
  have m1:=congrArg (fun x:Ap=>(x.Name,x.Entry,x.Dz,x.AU,x.Dx,x.AZ)) e
  simp only[Prod.mk.injEq]at m1
  obtain⟨a1,a2,a3,a4,a5,a6⟩:=m1
  have b1:(gd d.Ac.xs i).Name=(gd c.Ac.xs i).Name:=a1
  have b2:(gd d.Ac.xs i).Entry=(gd c.Ac.xs i).Entry:=a2
  have b3:(gd d.Ac.xs i).Dz=(gd c.Ac.xs i).Dz:=a3
  have b4:(gd d.Ac.xs i).AU=(gd c.Ac.xs i).AU:=a4
  have b5:(gd d.Ac.xs i).Dx=(gd c.Ac.xs i).Dx:=a5
  have b6:(gd d.Ac.xs i).AZ=(gd c.Ac.xs i).AZ:=a6
  have e1:(gd d.Ac.xs i).Ah.xs=(gd c.Ac.xs i).Ah.xs:=by have:=congrArg (fun x:Ap=>x.Ah.xs) e;exact this
  have e2:(gd d.Ac.xs i).Aq.xs=(gd c.Ac.xs i).Aq.xs:=by have:=congrArg (fun x:Ap=>x.Aq.xs) e;exact this
  have hm:gd d.Ac.xs i∈d.Ac.xs:=by rw[E5 hi];exact List.getElem_mem _
  refine⟨by rw[b1];exact hp.Name,by rw[b2];exact hp.Entry,by rw[b3];exact hp.Dz,by rw[b4];exact hp.AU,by rw[b5];exact hp.Dx,by rw[b6];exact hp.AZ,⟨Wl (cells:=AX.cells) (fun _=>rfl) r4 (List.mem_map_of_mem hm) (by rw[e1];exact hp.Ah.1.len),fun j hj => ?_⟩,⟨Wl (cells:=BR.cells) (fun _=>rfl) r5 (List.mem_map_of_mem hm) (by rw[e2];exact hp.Aq.1.len),fun j hj => ?_⟩⟩
  ·rw[e1]at hj ⊢
   have:=hp.Ah.2 j hj
   exact⟨this.CO,this.BO,this.Frame,this.EM⟩
  rw[e2]at hj ⊢
  have:=hp.Aq.2 j hj
  exact⟨this.Channel,this.Source⟩
 ·exact Pn (fun _=>rfl) r6 (by rw[h3];exact hc.Aj.1.len)
 rw[h3]at hi ⊢
 have:=hc.Aj.2 i hi
 exact⟨this.Kind,this.Words,this.Dj⟩
theorem strip_of{c d:Ai}(h0:d.Frames=c.Frames∧d.DD=c.DD∧d.Kernel=c.Kernel∧d.Room=c.Room)(h1:d.Ar.xs.length=c.Ar.xs.length)(h2:d.Ac.xs.length=c.Ac.xs.length)(h3:d.Aj.xs=c.Aj.xs)(h4:∀ i,i<c.Ar.xs.length→(gd d.Ar.xs i).xs=(gd c.Ar.xs i).xs)(h5:∀ i,i<c.Ac.xs.length→Jw (gd d.Ac.xs i)=Jw (gd c.Ac.xs i)):strip d=strip c:=by
 have e1:d.Ar.xs.map N7=c.Ar.xs.map N7:=by
  apply List.ext_getElem (by simpa using h1)
  intro i hi hi'
  have:=h4 i (by simpa using hi')
  rw[E5 (by simpa using hi),E5 (by simpa using hi')]at this
  simp[N7,this]
 have e2:d.Ac.xs.map Jw=c.Ac.xs.map Jw:=by
  apply List.ext_getElem (by simpa using h2)
  intro i hi hi'
  have:=h5 i (by simpa using hi')
  rw[E5 (by simpa using hi),E5 (by simpa using hi')]at this
  simpa using this
 obtain⟨f1,f2,f3,f4⟩:=h0
 unfold strip
 rw[e1,e2,f1,f2,f3,f4]
 simp only[N7,h3]
section
variable (n24:Nat)(y33:Ap)(ax34:Option Addr)(cp35:Nat)(ax38:Option Addr)(cp39 z:Nat)(c:Ai)(aC:Option Addr)(csG:List (Sl A7))(cC b42:Nat)(psG:List Ap)(cP:Nat)(aP:Option Addr)(p:Nat)
abbrev VY:=bk n24 #[.string y33.Name,i6 y33.Entry,i6 y33.Dz,i6 y33.AU,i6 y33.Dx,i6 y33.AZ,.slice ax34 (([]++y33.Ah.xs).length) cp35,.slice ax38 (([]++y33.Aq.xs).length) cp39] 57
abbrev Us:=bk (z+2) #[i6 c.Frames,i6 c.DD,i6 c.Kernel,i6 c.Room,.slice aC csG.length cC,.slice c.Ac.a c.Ac.xs.length c.Ac.cap,.slice c.Aj.a c.Aj.xs.length c.Aj.cap] 27
abbrev WC:=bk (z+2) #[i6 c.Frames,i6 c.DD,i6 c.Kernel,i6 c.Room,.slice aC csG.length cC,.slice (some ⟨b42,0,none⟩) psG.length cP,.slice c.Aj.a c.Aj.xs.length c.Aj.cap] 27
abbrev Ud:=bk (z+2) #[i6 c.Frames,i6 c.DD,i6 c.Kernel,i6 c.Room,.slice aC csG.length cC,.slice aP psG.length cP,.slice c.Aj.a c.Aj.xs.length c.Aj.cap] 27
abbrev JJ:=bk (z+1) #[i6 0,i6 0,i6 0,i6 0,.slice none 0 0,.slice none 0 0,.slice none 0 0] 27
abbrev J9:=bk z (Ai.arr c) 27
abbrev We:=BB z 57 8 Ap.cells (.slice (some ⟨b42,0,none⟩) psG.length cP) (psG.set p (⟨y33.Name,y33.Entry,y33.Dz,y33.AU,y33.Dx,y33.AZ,(⟨ax34,cp35,([]++y33.Ah.xs)⟩:Sl AX),(⟨ax38,cp39,([]++y33.Aq.xs)⟩:Sl BR)⟩:Ap))
abbrev KN:=BB z 50 1 (fun x:Sl A7=>[Sl.val x]) (.slice aC csG.length cC) csG
abbrev Ru:=Ed z 64 4 AX.cells ((psG.take p).map Ap.Ah)
abbrev QE:=Ed z 67 2 BR.cells ((psG.take p).map Ap.Aq)
abbrev PZ:=BB z 57 8 Ap.cells (.slice aP psG.length cP) psG
abbrev Gh:=(2,pt (z+1))
abbrev Gq:=(3,pt (z+2))
end
theorem Jd(w:World)(c:Ai)(hc:Ai.ok Any w c)(hLim:VU c):Calls Tryz.prog 13 #[.agg (Ai.arr c)] w fun e w'=>∃ d:Ai,e = .returned (.agg (Ai.arr d))∧strip d=strip c∧UY w.heap.size w' d∧BH (fun _=>False) w w':=by
 obtain⟨z,hz⟩:∃ z,z=w.heap.size:=⟨_,rfl⟩
 refine BA (args:=[.agg (Ai.arr c)]) 77 ⟨w,z,[(Ak w)]⟩ Tryz.func13 rfl (by kernel_rfl) (by kernel_rfl) (En hz) ?_
 have hpl:=hc.Ac.1.len;have hpc:=hc.Ar.1.len;have hpch:=hc.Aj.1.len;have hll1:=hLim.cl;have hll2:=hLim.pl;have hll3:=hLim.hl
 refine Cc [0] [(0,.agg (Ai.arr c))] ?_
 refine q_c 10 3 [] [[o0,o0],[(an 7 1),o0,(an 7 3)],[o0,(a1 1),o0]] [Qb z,Qb z,Qb z,Qb z,Qb z,Qb z,Qb z,Qb (z+2),Qb (z+2),Qb (z+2),Qb (z+2),Qb (z+2),Qb (z+2),Qb (z+2),Qb z] [(1,pt z),(Gh z),(Gq z),(14,Aa c.Ar.xs.length)] ⟨w,z+3,[(Ak w),(J9 z c),(JJ z),(bk (z+2) (Ai.arr c) 27)]⟩ rfl ⟨rfl,rfl,rfl,rfl,rfl,rfl,rfl,rfl,rfl,rfl,rfl,rfl,rfl,rfl,rfl,Ae⟩ ?_
 refine l_makeB z c.Ar.xs.length (⟨none,0,[]⟩:Sl A7) (fun x:Sl A7=>[Sl.val x]) 50 1 24 (.slice none 0 0) (c.Ar.xs.length:Int) (c.Ar.xs.length:Int) (some 15) rfl rfl (by omega) (by omega) (show z≤z+3 by omega) (fun n1 (hn2:z+3+1≤n1) => ?_)
 refine EG 8 0 [] [[o0,(a1 3)],[o0]] [Qb (z+2)] [(1,pt z),(Gh z),(Gq z),(4,i6 0)] ⟨w,n1,[(Ak w),(J9 z c),(JJ z),(bk (z+2) #[i6 c.Frames,i6 c.DD,i6 c.Kernel,i6 c.Room,.slice (some ⟨z+3,0,none⟩) c.Ar.xs.length c.Ar.xs.length,.slice c.Ac.a c.Ac.xs.length c.Ac.cap,.slice c.Aj.a c.Aj.xs.length c.Aj.cap] 27),(BB z 50 1 (fun x:Sl A7=>[Sl.val x]) (.slice (some ⟨z+3,0,none⟩) c.Ar.xs.length c.Ar.xs.length) (List.replicate c.Ar.xs.length (⟨none,0,[]⟩:Sl A7)))]⟩ rfl ⟨rfl,Ae⟩ ?_
 refine Rx z 52 3 A7.cells ?_
 refine DI (fun m a w'=>∃ (n4:Nat) (i:Nat) (csG:List (Sl A7)) (aC:Option Addr) (cC:Nat),m=c.Ar.xs.length - i∧n1≤n4∧(i≤c.Ar.xs.length)∧(csG.length=c.Ar.xs.length)∧(∀ q,q<i→(gd csG q).xs=(gd c.Ar.xs q).xs)∧St 77 [(1,pt z),(Gh z),(Gq z),(4,Aa i)] [] ⟨w,n4,[(Ak w),(J9 z c),(JJ z),(Us z c aC csG cC),(KN z aC csG cC),(Ed z 52 3 A7.cells (csG.take i))]⟩ a w') (c.Ar.xs.length - 0) ?_ ?_
 ·intro a w' hs;exact⟨n1,0,(List.replicate c.Ar.xs.length ⟨none,0,[]⟩),(some ⟨z+3,0,none⟩),c.Ar.xs.length,rfl,Nat.le_refl _,Nat.zero_le _,List.length_replicate,fun q hq=>absurd hq (Nat.not_lt_zero q),(by(try dsimp only[Us,JJ,J9,KN,Gh,Gq]at hs ⊢);rw[List.take_zero,List.length_replicate];exact hs)⟩
 rintro m a w' ⟨n4,i,csG,aC,cC,rfl,hn3,hki,hcl,hc1,hs⟩
 refine(?_:G Tryz.prog 77 [(1,pt z),(Gh z),(Gq z),(4,Aa i)] [] ⟨w,n4,[(Ak w),(J9 z c),(JJ z),(Us z c aC csG cC),(KN z aC csG cC),(Ed z 52 3 A7.cells (csG.take i))]⟩ _ _ _) a w' hs
 clear hs a w'
 refine Dl <| Dl ?_
 by_cases h5:(i:Int)<(c.Ar.xs.length:Int)
 ·refine A8 13 0 [1] [[o0,o0,(a1 1),o0,oT],[o0]] [Qb z,BT ((i:Int)<(c.Ar.xs.length:Int))] [(1,pt z),(Gh z),(Gq z),(4,Aa i),(5,.slice none 0 0)] rfl ⟨rfl,bt,Ae⟩ ?_
  obtain⟨b6,o7,ha8,hF10,hc9⟩:=(hc.Ar).1.all (show 0<c.Ar.xs.length by omega)
  replace ha8:c.Ar.a=some ⟨b6,o7,none⟩:=ha8
  have hc11:=hc9 i (show i<c.Ar.xs.length by omega)
  have he12:=(hc.Ar).2 i (show i<c.Ar.xs.length by omega)
  obtain⟨y13,hy13⟩:∃ y_,y_=gd c.Ar.xs i:=⟨_,rfl⟩
  rw[←hy13]at he12 hc11
  have hlw:=hLim.ws i (by omega);rw[←hy13]at hlw;have hyl:=he12.1.len
  refine A8 1 6 [] [[o0,o0,(J3 1 b6 o7 c.Ar),o0,(oi i),(oa [.via 0 (.slice y13.a y13.xs.length y13.cap)])]] [Qb z,IJ b6 o7 c.Ar,Ea i,i<c.Ar.xs.length,Ec,Old w b6 (o7+i) (.slice y13.a y13.xs.length y13.cap)] [(1,pt z),(Gh z),(Gq z),(4,Aa i),(24,.slice none 0 0),(29,.slice y13.a y13.xs.length y13.cap)] rfl ⟨rfl,IK ha8,rfl,(by omega),rfl,Aw (hc11 0 _ rfl),Ae⟩ ?_
  refine YD z 52 3 A7.cells ?_
  refine Vy z 6 0 ([]) y13.xs y13.a A7.cells 52 3 24 (.slice none 0 0) y13.xs.length y13.cap (Ak w) (some 30) (by simp only[List.length_nil];omega) (by simp only[List.length_nil];omega) (show z≤n4 by omega) (fun w' hw=>Jy (fun b k v _ hv=>Aw hv w' hw) (fun _ h=>h) (he12).1) (fun ax14 cp15 n16 (hn17:n4≤n16) => ?_)
  refine Bv 2 0 [] [[o0]] [] [(1,pt z),(Gh z),(Gq z),(4,Aa i),(5,.slice ax14 (([]++y13.xs).length) cp15)] rfl Ae ?_
  refine Ky (base:=z) (e:=50) (sz:=1) (cells:=(fun x:Sl A7=>[Sl.val x])) (a:=aC) (n:=csG.length) (cap:=cC) (xs:=csG) 4 (by omega) (fun b18 hg19 hb20 => ?_)
  subst hg19
  refine A8 1 5 [] [[o0,(a1 3),o0,o0,(oi i)]] [Qb (z+2),Ea i,i<csG.length,Ec] [(1,pt z),(Gh z),(Gq z),(4,Aa i),(34,.slice ax14 (([]++y13.xs).length) cp15),(35,.pointer (some ⟨b18,0+i,none⟩))] rfl ⟨rfl,rfl,(by omega),rfl,Ae⟩ ?_
  refine Yc 4 i 0 csG (⟨ax14,cp15,([]++y13.xs)⟩:Sl A7) (fun x:Sl A7=>[Sl.val x]) z 50 1 b18 csG.length cC (.slice ax14 (([]++y13.xs).length) cp15) none (by omega) rfl ?_
  refine Bv 5 0 [] [[],[o0,(ov (i6 ((i+1:Nat):Int))),o0]] [Wr ((i:Int)+1) (((i+1:Nat):Int))] [(1,pt z),(Gh z),(Gq z),(4,i6 ((i+1:Nat):Int))] rfl ⟨Dk,Ae⟩ ?_
  refine Ux 5 6 [0,1,2,3,4] [(Ak w),(J9 z c),(JJ z),(bk (z+2) #[i6 c.Frames,i6 c.DD,i6 c.Kernel,i6 c.Room,.slice (some ⟨b18,0,none⟩) csG.length cC,.slice c.Ac.a c.Ac.xs.length c.Ac.cap,.slice c.Aj.a c.Aj.xs.length c.Aj.cap] 27),(BB z 50 1 (fun x:Sl A7=>[Sl.val x]) (.slice (some ⟨b18,0,none⟩) csG.length cC) (csG.set i (⟨ax14,cp15,([]++y13.xs)⟩:Sl A7)))] ?_
  refine Cb [1,2,3,4] [(1,pt z),(Gh z),(Gq z),(4,i6 ((i+1:Nat):Int))] ?_
  refine CS (fun a w' hs=>⟨c.Ar.xs.length - (i+1),by omega,n16,(i+1),(csG.set i (⟨ax14,cp15,([]++y13.xs)⟩:Sl A7)),(some ⟨b18,0,none⟩),cC,rfl,by omega,by omega,by rw[List.length_set];exact hcl,fun q hq=>if e:q=i then(by rw[e,UT (by omega),←hy13];rfl)else(by rw[Uy (fun e2=>e e2.symm) (by omega)];exact hc1 q (by omega)),(by(try dsimp only[Us,JJ,J9,KN,Gh,Gq]at hs ⊢);rw[Sr (by omega),List.length_set];exact hs)⟩)
 refine A8 11 3 [0] [[o0,o0,(a1 1),o0,oF],[o0,(a1 1),o0]] [Qb z,BF ((i:Int)<(c.Ar.xs.length:Int)),Qb z] [(1,pt z),(Gh z),(Gq z),(38,Aa c.Ac.xs.length)] rfl ⟨rfl,bf,rfl,Ae⟩ ?_
 refine l_makeB z c.Ac.xs.length (⟨⟨#[]⟩,0,0,0,0,0,(⟨none,0,[]⟩:Sl AX),(⟨none,0,[]⟩:Sl BR)⟩:Ap) Ap.cells 57 8 104 (.agg #[.string (⟨#[]⟩),i6 0,i6 0,i6 0,i6 0,i6 0,.slice none 0 0,.slice none 0 0]) (c.Ac.xs.length:Int) (c.Ac.xs.length:Int) (some 39) rfl rfl (by omega) (by omega) (show z≤n4 by omega) (fun n21 (hn22:n4+1≤n21) => ?_)
 refine EG 8 0 [] [[o0,(a1 3)],[o0]] [Qb (z+2)] [(1,pt z),(Gh z),(Gq z),(6,i6 0)] ⟨w,n21,[(Ak w),(J9 z c),(JJ z),(bk (z+2) #[i6 c.Frames,i6 c.DD,i6 c.Kernel,i6 c.Room,.slice aC csG.length cC,.slice (some ⟨n4,0,none⟩) c.Ac.xs.length c.Ac.xs.length,.slice c.Aj.a c.Aj.xs.length c.Aj.cap] 27),(KN z aC csG cC),(Ed z 52 3 A7.cells (csG.take i)),(BB z 57 8 Ap.cells (.slice (some ⟨n4,0,none⟩) c.Ac.xs.length c.Ac.xs.length) (List.replicate c.Ac.xs.length (⟨⟨#[]⟩,0,0,0,0,0,(⟨none,0,[]⟩:Sl AX),(⟨none,0,[]⟩:Sl BR)⟩:Ap)))]⟩ rfl ⟨rfl,Ae⟩ ?_
 refine Rx z 64 4 AX.cells ?_
 refine Rx z 67 2 BR.cells ?_
 refine DI (fun m a w'=>∃ (n24:Nat) (p:Nat) (psG:List Ap) (aP:Option Addr) (cP:Nat),m=c.Ac.xs.length - p∧n21≤n24∧(p≤c.Ac.xs.length)∧(psG.length=c.Ac.xs.length)∧(∀ q,q<p→Jw (gd psG q)=Jw (gd c.Ac.xs q))∧St 77 [(1,pt z),(Gh z),(Gq z),(6,Aa p)] [] ⟨w,n24,[(Ak w),(J9 z c),(JJ z),(Ud z c aC csG cC psG cP aP),(KN z aC csG cC),(Ed z 52 3 A7.cells (csG.take i)),(PZ z psG cP aP),(Ru z psG p),(QE z psG p)]⟩ a w') (c.Ac.xs.length - 0) ?_ ?_
 ·intro a w' hs;exact⟨n21,0,((List.replicate c.Ac.xs.length (⟨⟨#[]⟩,0,0,0,0,0,(⟨none,0,[]⟩:Sl AX),(⟨none,0,[]⟩:Sl BR)⟩:Ap))),(some ⟨n4,0,none⟩),c.Ac.xs.length,rfl,Nat.le_refl _,Nat.zero_le _,List.length_replicate,fun q hq=>absurd hq (Nat.not_lt_zero q),(by(try dsimp only[Us,Ud,JJ,J9,KN,Ru,QE,PZ,Gh,Gq]at hs ⊢);rw[List.take_zero,List.length_replicate];exact hs)⟩
 rintro m a w' ⟨n24,p,psG,aP,cP,rfl,hn23,hkp,hpl,hp1,hs⟩
 refine(?_:G Tryz.prog 77 [(1,pt z),(Gh z),(Gq z),(6,Aa p)] [] ⟨w,n24,[(Ak w),(J9 z c),(JJ z),(Ud z c aC csG cC psG cP aP),(KN z aC csG cC),(Ed z 52 3 A7.cells (csG.take i)),(PZ z psG cP aP),(Ru z psG p),(QE z psG p)]⟩ _ _ _) a w' hs
 clear hs a w'
 refine Dl <| Dl ?_
 by_cases h25:(p:Int)<(c.Ac.xs.length:Int)
 ·refine A8 9 0 [1] [[o0,o0,(a1 1),o0,oT]] [Qb z,BT ((p:Int)<(c.Ac.xs.length:Int))] [(1,pt z),(Gh z),(Gq z),(6,Aa p),(45,.bool true)] rfl ⟨rfl,bt,Ae⟩ ?_
  obtain⟨b26,o27,ha28,hF30,hc29⟩:=(hc.Ac).1.all (show 0<c.Ac.xs.length by omega)
  replace ha28:c.Ac.a=some ⟨b26,o27,none⟩:=ha28
  have hc31:=hc29 p (show p<c.Ac.xs.length by omega)
  have he32:=(hc.Ac).2 p (show p<c.Ac.xs.length by omega)
  obtain⟨y33,hy33⟩:∃ y_,y_=gd c.Ac.xs p:=⟨_,rfl⟩
  rw[←hy33]at he32 hc31
  have hlr:=hLim.rs p (by omega);have hlq:=hLim.qs p (by omega);rw[←hy33]at hlr hlq
  refine q_c 9 3 [] [[o0,(J3 1 b26 o27 c.Ac),o0,(oi p),(ol 0 (Ap.arr y33)),o0,(an 8 9)],[o0],[o0,o0,(a1 9)]] [Qb z,IJ b26 o27 c.Ac,Ea p,p<c.Ac.xs.length,Ec,Hu w b26 (o27+p*8) (Ap.arr y33),Qb n24,Qb n24,Qb n24,Qb n24,Qb n24,Qb n24,Qb n24,Qb n24,Qb n24] [(1,pt z),(Gh z),(Gq z),(6,Aa p),(7,pt n24),(53,.slice none 0 0),(55,.slice y33.Ah.a y33.Ah.xs.length y33.Ah.cap)] ⟨w,n24+1,[(Ak w),(J9 z c),(JJ z),(Ud z c aC csG cC psG cP aP),(KN z aC csG cC),(Ed z 52 3 A7.cells (csG.take i)),(PZ z psG cP aP),(Ru z psG p),(QE z psG p),(bk n24 (Ap.arr y33) 57)]⟩ rfl ⟨rfl,IK ha28,rfl,(by omega),rfl,EE hc31,rfl,rfl,rfl,rfl,rfl,rfl,rfl,rfl,rfl,Ae⟩ ?_
  refine YD z 64 4 AX.cells ?_
  refine Vy z 10 0 ([]) y33.Ah.xs y33.Ah.a AX.cells 64 4 32 (.slice none 0 0) y33.Ah.xs.length y33.Ah.cap (Ak w) (some 56) (by simp only[List.length_nil];omega) (by simp only[List.length_nil];omega) (show z≤n24+1 by omega) (fun w' hw=>Jy (fun b k v _ hv=>Aw hv w' hw) (fun _ h=>h) (he32.Ah).1) (fun ax34 cp35 n36 (hn37:n24+1≤n36) => ?_)
  refine Bv 8 3 [] [[o0],[o0],[o0,o0,(a1 9)]] [Qb n24] [(1,pt z),(Gh z),(Gq z),(6,Aa p),(7,pt n24),(8,.slice ax34 (([]++y33.Ah.xs).length) cp35),(57,.slice none 0 0),(59,.slice y33.Aq.a y33.Aq.xs.length y33.Aq.cap)] rfl ⟨rfl,Ae⟩ ?_
  refine YD z 67 2 BR.cells ?_
  refine Vy z 11 0 ([]) y33.Aq.xs y33.Aq.a BR.cells 67 2 16 (.slice none 0 0) y33.Aq.xs.length y33.Aq.cap (Ak w) (some 60) (by simp only[List.length_nil];omega) (by simp only[List.length_nil];omega) (show z≤n36 by omega) (fun w' hw=>Jy (fun b k v _ hv=>Aw hv w' hw) (fun _ h=>h) (he32.Aq).1) (fun ax38 cp39 n40 (hn41:n36≤n40) => ?_)
  refine EG 10 0 [] [[o0],[o0,o0,(a1 9)],[o0,o0,(a1 9)]] [Qb n24,Qb n24] [(1,pt z),(Gh z),(Gq z),(6,Aa p),(7,pt n24)] ⟨w,n40,[(Ak w),(J9 z c),(JJ z),(Ud z c aC csG cC psG cP aP),(KN z aC csG cC),(Ed z 52 3 A7.cells (csG.take i)),(PZ z psG cP aP),(Ru z psG p),(QE z psG p),(VY n24 y33 ax34 cp35 ax38 cp39),(BB z 64 4 AX.cells (.slice ax34 (([]++y33.Ah.xs).length) cp35) ([]++y33.Ah.xs)),(BB z 67 2 BR.cells (.slice ax38 (([]++y33.Aq.xs).length) cp39) ([]++y33.Aq.xs))]⟩ rfl ⟨rfl,rfl,Ae⟩ ?_
  refine Ky (base:=z) (e:=57) (sz:=8) (cells:=Ap.cells) (a:=aP) (n:=psG.length) (cap:=cP) (xs:=psG) 6 (by omega) (fun b42 hg43 hb44 => ?_)
  subst hg43
  refine A8 1 5 [] [[o0,(a1 3),o0,(an 8 9),(oi p)]] [Qb (z+2),Qb n24,Qb n24,Qb n24,Qb n24,Qb n24,Qb n24,Qb n24,Qb n24,Ea p,p<psG.length,Ec] [(1,pt z),(Gh z),(Gq z),(6,Aa p),(68,.agg #[.string y33.Name,i6 y33.Entry,i6 y33.Dz,i6 y33.AU,i6 y33.Dx,i6 y33.AZ,.slice ax34 (([]++y33.Ah.xs).length) cp35,.slice ax38 (([]++y33.Aq.xs).length) cp39]),(69,.pointer (some ⟨b42,0+GI 8 p,none⟩))] rfl ⟨rfl,rfl,rfl,rfl,rfl,rfl,rfl,rfl,rfl,rfl,(by omega),rfl,Ae⟩ ?_
  refine l_rowsetN 6 p psG (⟨y33.Name,y33.Entry,y33.Dz,y33.AU,y33.Dx,y33.AZ,(⟨ax34,cp35,([]++y33.Ah.xs)⟩:Sl AX),(⟨ax38,cp39,([]++y33.Aq.xs)⟩:Sl BR)⟩:Ap) Ap.cells z 57 8 b42 psG.length cP #[.string y33.Name,i6 y33.Entry,i6 y33.Dz,i6 y33.AU,i6 y33.Dx,i6 y33.AZ,.slice ax34 (([]++y33.Ah.xs).length) cp35,.slice ax38 (([]++y33.Aq.xs).length) cp39] none (by omega) ?_
  refine Bv 5 0 [] [[],[o0,(ov (i6 ((p+1:Nat):Int))),o0]] [Wr ((p:Int)+1) (((p+1:Nat):Int))] [(1,pt z),(Gh z),(Gq z),(6,i6 ((p+1:Nat):Int))] rfl ⟨Dk,Ae⟩ ?_
  refine Ux 7 10 [0,1,2,3,4,5,6,8,9,11] [(Ak w),(J9 z c),(JJ z),(WC z c aC csG cC b42 psG cP),(KN z aC csG cC),(Ed z 52 3 A7.cells (csG.take i)),(We y33 ax34 cp35 ax38 cp39 z b42 psG cP p),(QE z psG p),(VY n24 y33 ax34 cp35 ax38 cp39),(BB z 67 2 BR.cells (.slice ax38 (([]++y33.Aq.xs).length) cp39) ([]++y33.Aq.xs))] ?_
  refine Ux 7 9 [0,1,2,3,4,5,6,8,10] [(Ak w),(J9 z c),(JJ z),(WC z c aC csG cC b42 psG cP),(KN z aC csG cC),(Ed z 52 3 A7.cells (csG.take i)),(We y33 ax34 cp35 ax38 cp39 z b42 psG cP p),(VY n24 y33 ax34 cp35 ax38 cp39),(Ed z 64 4 AX.cells (((psG.take p).map Ap.Ah)++[⟨ax34,cp35,([]++y33.Ah.xs)⟩]))] ?_
  refine C9 [0,1,2,3,4,5,6,8,9] [(Ak w),(J9 z c),(JJ z),(WC z c aC csG cC b42 psG cP),(KN z aC csG cC),(Ed z 52 3 A7.cells (csG.take i)),(We y33 ax34 cp35 ax38 cp39 z b42 psG cP p),(Ed z 64 4 AX.cells (((psG.take p).map Ap.Ah)++[⟨ax34,cp35,([]++y33.Ah.xs)⟩])),(Ed z 67 2 BR.cells (((psG.take p).map Ap.Aq)++[⟨ax38,cp39,([]++y33.Aq.xs)⟩]))] rfl rfl ?_
  refine Cb [1,2,3,6] [(1,pt z),(Gh z),(Gq z),(6,i6 ((p+1:Nat):Int))] ?_
  refine CS (fun a w' hs=>⟨c.Ac.xs.length - (p+1),by omega,n40,(p+1),(psG.set p (⟨y33.Name,y33.Entry,y33.Dz,y33.AU,y33.Dx,y33.AZ,(⟨ax34,cp35,([]++y33.Ah.xs)⟩:Sl AX),(⟨ax38,cp39,([]++y33.Aq.xs)⟩:Sl BR)⟩:Ap)),(some ⟨b42,0,none⟩),cP,rfl,by omega,by omega,by rw[List.length_set];exact hpl,fun q hq=>if e:q=p then(by rw[e,UT (by omega),←hy33];rfl)else(by rw[Uy (fun e2=>e e2.symm) (by omega)];exact hp1 q (by omega)),(by(try dsimp only[VY,Us,WC,Ud,JJ,J9,We,KN,Ru,QE,PZ,Gh,Gq]at hs ⊢);rw[Sr (by omega),List.map_append,List.map_append,List.length_set];exact hs)⟩)
 refine A8 15 3 [0] [[o0,o0,(a1 1),o0,oF],[o0],[o0,o0,(a1 1)]] [Qb z,BF ((p:Int)<(c.Ac.xs.length:Int)),Qb z] [(Gh z),(Gq z),(70,.slice none 0 0),(72,.slice c.Aj.a c.Aj.xs.length c.Aj.cap)] rfl ⟨rfl,bf,rfl,Ae⟩ ?_
 refine YD z 49 3 AQ.cells ?_
 refine Vy z 9 0 ([]) c.Aj.xs c.Aj.a AQ.cells 49 3 24 (.slice none 0 0) c.Aj.xs.length c.Aj.cap (Ak w) (some 73) (by simp only[List.length_nil];omega) (by simp only[List.length_nil];omega) (show z≤n24 by omega) (fun w' hw=>Jy (fun b k v _ hv=>Aw hv w' hw) (fun _ h=>h) (hc.Aj).1) (fun ax45 cp46 n47 (hn48:n24≤n47) => ?_)
 refine EG 11 0 [] [[o0],[o0,o0,(a1 3)],[(an 7 3),(an 7 2)]] [Qb (z+2),Qb (z+2),Qb (z+2),Qb (z+2),Qb (z+2),Qb (z+2),Qb (z+2),Qb (z+2),Qb (z+1),Qb (z+1),Qb (z+1),Qb (z+1),Qb (z+1),Qb (z+1),Qb (z+1)] [(Gh z)] ⟨w,n47,[(Ak w),(J9 z c),(bk (z+1) #[i6 c.Frames,i6 c.DD,i6 c.Kernel,i6 c.Room,.slice aC csG.length cC,.slice aP psG.length cP,.slice ax45 (([]++c.Aj.xs).length) cp46] 27),(bk (z+2) #[i6 c.Frames,i6 c.DD,i6 c.Kernel,i6 c.Room,.slice aC csG.length cC,.slice aP psG.length cP,.slice ax45 (([]++c.Aj.xs).length) cp46] 27),(KN z aC csG cC),(Ed z 52 3 A7.cells (csG.take i)),(PZ z psG cP aP),(Ru z psG p),(QE z psG p),(BB z 49 3 AQ.cells (.slice ax45 (([]++c.Aj.xs).length) cp46) ([]++c.Aj.xs))]⟩ rfl ⟨rfl,rfl,rfl,rfl,rfl,rfl,rfl,rfl,rfl,rfl,rfl,rfl,rfl,rfl,rfl,Ae⟩ ?_
 refine AP [.at 2,.at 2,.at 2,.at 2,.at 2,.at 2,.at 2] [Qb (z+1),Qb (z+1),Qb (z+1),Qb (z+1),Qb (z+1),Qb (z+1),Qb (z+1)] (.agg #[i6 c.Frames,i6 c.DD,i6 c.Kernel,i6 c.Room,.slice aC csG.length cC,.slice aP psG.length cP,.slice ax45 (([]++c.Aj.xs).length) cp46]) ⟨rfl,rfl,rfl,rfl,rfl,rfl,rfl,Ae⟩ ?_
 intro w49 hw49
 have hO:UY z w49 (⟨c.Frames,c.DD,c.Kernel,c.Room,⟨aC,cC,csG⟩,⟨aP,cP,psG⟩,⟨ax45,cp46,([]++c.Aj.xs)⟩⟩:Ai):=⟨w,by
  have h4:=hw49.pick [4,5,6,7,8,9] rfl rfl
  rw[hw49.size]
  unfold confS Sl.val
  (try dsimp only[VY,Us,WC,Ud,JJ,J9,We,KN,Ru,QE,PZ,Gh,Gq]at h4)
  rw[List.take_of_length_le (by omega),List.take_of_length_le (by omega)]at h4
  exact h4⟩
 exact⟨(⟨c.Frames,c.DD,c.Kernel,c.Room,⟨aC,cC,csG⟩,⟨aP,cP,psG⟩,⟨ax45,cp46,([]++c.Aj.xs)⟩⟩:Ai),by simp only[Ai.arr,hcl,hpl],strip_of ⟨rfl,rfl,rfl,rfl⟩ hcl hpl rfl (fun q hq=>hc1 q (by omega)) (fun q hq=>hp1 q (by omega)),hz ▸ hO,Au hw49⟩
open Go.ChangeShapes Go.WideShapes Go.Deep
theorem rd_TWindow:Rd Tryz.prog 52 A7.cells A7.ok:=by
 intro H enc W fuel cs x hx hw
 obtain⟨xs,n, -,rfl,hl,hlen,hf⟩:=DataW.trod_struct Tryz.underlying52 hx
 rw[show Tryz.prog.cellsOf 52=3 from by kernel_rfl]at hl
 match cs,hl with
 | [c0,c1,c2],_ =>
  obtain⟨y0,e0,k0⟩:=FH Tryz.underlying52 hlen hf hw 0 0 1 _ rfl rfl (by kernel_rfl) (Jt Tryz.underlying3)
  have g0:[c0]=_:=e0
  simp only[List.cons.injEq,and_true]at g0
  subst g0
  obtain⟨y1,e1,k1⟩:=FH Tryz.underlying52 hlen hf hw 1 1 1 _ rfl rfl (by kernel_rfl) (Jt Tryz.underlying3)
  have g1:[c1]=_:=e1
  simp only[List.cons.injEq,and_true]at g1
  subst g1
  obtain⟨y2,e2,k2⟩:=FH Tryz.underlying52 hlen hf hw 2 2 1 _ rfl rfl (by kernel_rfl) (Jt Tryz.underlying3)
  have g2:[c2]=_:=e2
  simp only[List.cons.injEq,and_true]at g2
  subst g2
  exact⟨⟨y0,y1,y2⟩,rfl,⟨k0,k1,k2⟩⟩
theorem rd_TRegion:Rd Tryz.prog 64 AX.cells AX.ok:=by
 intro H enc W fuel cs x hx hw
 obtain⟨xs,n, -,rfl,hl,hlen,hf⟩:=DataW.trod_struct Tryz.underlying64 hx
 rw[show Tryz.prog.cellsOf 64=4 from by kernel_rfl]at hl
 match cs,hl with
 | [c0,c1,c2,c3],_ =>
  obtain⟨y0,e0,k0⟩:=FH Tryz.underlying64 hlen hf hw 0 0 1 _ rfl rfl (by kernel_rfl) (Jt Tryz.underlying3)
  have g0:[c0]=_:=e0
  simp only[List.cons.injEq,and_true]at g0
  subst g0
  obtain⟨y1,e1,k1⟩:=FH Tryz.underlying64 hlen hf hw 1 1 1 _ rfl rfl (by kernel_rfl) (Jt Tryz.underlying3)
  have g1:[c1]=_:=e1
  simp only[List.cons.injEq,and_true]at g1
  subst g1
  obtain⟨y2,e2,k2⟩:=FH Tryz.underlying64 hlen hf hw 2 2 1 _ rfl rfl (by kernel_rfl) (Jt Tryz.underlying3)
  have g2:[c2]=_:=e2
  simp only[List.cons.injEq,and_true]at g2
  subst g2
  obtain⟨y3,e3,k3⟩:=FH Tryz.underlying64 hlen hf hw 3 3 1 _ rfl rfl (by kernel_rfl) (Jt Tryz.underlying3)
  have g3:[c3]=_:=e3
  simp only[List.cons.injEq,and_true]at g3
  subst g3
  exact⟨⟨y0,y1,y2,y3⟩,rfl,⟨k0,k1,k2,k3⟩⟩
theorem rd_TPort:Rd Tryz.prog 67 BR.cells BR.ok:=by
 intro H enc W fuel cs x hx hw
 obtain⟨xs,n, -,rfl,hl,hlen,hf⟩:=DataW.trod_struct Tryz.underlying67 hx
 rw[show Tryz.prog.cellsOf 67=2 from by kernel_rfl]at hl
 match cs,hl with
 | [c0,c1],_ =>
  obtain⟨y0,e0,k0⟩:=FH Tryz.underlying67 hlen hf hw 0 0 1 _ rfl rfl (by kernel_rfl) (Jt Tryz.underlying3)
  have g0:[c0]=_:=e0
  simp only[List.cons.injEq,and_true]at g0
  subst g0
  obtain⟨y1,e1,k1⟩:=FH Tryz.underlying67 hlen hf hw 1 1 1 _ rfl rfl (by kernel_rfl) (rd_bool Tryz.underlying4)
  have g1:[c1]=_:=e1
  simp only[List.cons.injEq,and_true]at g1
  subst g1
  exact⟨⟨y0,y1⟩,rfl,⟨k0,k1⟩⟩
theorem rd_TChannel:Rd Tryz.prog 49 AQ.cells AQ.ok:=by
 intro H enc W fuel cs x hx hw
 obtain⟨xs,n, -,rfl,hl,hlen,hf⟩:=DataW.trod_struct Tryz.underlying49 hx
 rw[show Tryz.prog.cellsOf 49=3 from by kernel_rfl]at hl
 match cs,hl with
 | [c0,c1,c2],_ =>
  obtain⟨y0,e0,k0⟩:=FH Tryz.underlying49 hlen hf hw 0 0 1 _ rfl rfl (by kernel_rfl) (Jt Tryz.underlying3)
  have g0:[c0]=_:=e0
  simp only[List.cons.injEq,and_true]at g0
  subst g0
  obtain⟨y1,e1,k1⟩:=FH Tryz.underlying49 hlen hf hw 1 1 1 _ rfl rfl (by kernel_rfl) (Jt Tryz.underlying3)
  have g1:[c1]=_:=e1
  simp only[List.cons.injEq,and_true]at g1
  subst g1
  obtain⟨y2,e2,k2⟩:=FH Tryz.underlying49 hlen hf hw 2 2 1 _ rfl rfl (by kernel_rfl) (Jt Tryz.underlying3)
  have g2:[c2]=_:=e2
  simp only[List.cons.injEq,and_true]at g2
  subst g2
  exact⟨⟨y0,y1,y2⟩,rfl,⟨k0,k1,k2⟩⟩
theorem rd_PartB:Rd Tryz.prog 57 Ap.cells (fun F W x=>Ap.ok F W x∧x.Ah.xs.length*Tryz.prog.bytesOf 64≤reachBytes∧x.Aq.xs.length*Tryz.prog.bytesOf 67≤reachBytes):=by
 intro H enc W fuel cs x hx hw
 obtain⟨xs,n, -,rfl,hl,hlen,hf⟩:=DataW.trod_struct Tryz.underlying57 hx
 rw[show Tryz.prog.cellsOf 57=8 from by kernel_rfl]at hl
 match cs,hl with
 | [c0,c1,c2,c3,c4,c5,c6,c7],_ =>
  obtain⟨y0,e0,k0⟩:=FH Tryz.underlying57 hlen hf hw 0 0 1 _ rfl rfl (by kernel_rfl) (rd_string Tryz.underlying9)
  have g0:[c0]=_:=e0
  simp only[List.cons.injEq,and_true]at g0
  subst g0
  obtain⟨y1,e1,k1⟩:=FH Tryz.underlying57 hlen hf hw 1 1 1 _ rfl rfl (by kernel_rfl) (Jt Tryz.underlying3)
  have g1:[c1]=_:=e1
  simp only[List.cons.injEq,and_true]at g1
  subst g1
  obtain⟨y2,e2,k2⟩:=FH Tryz.underlying57 hlen hf hw 2 2 1 _ rfl rfl (by kernel_rfl) (Jt Tryz.underlying3)
  have g2:[c2]=_:=e2
  simp only[List.cons.injEq,and_true]at g2
  subst g2
  obtain⟨y3,e3,k3⟩:=FH Tryz.underlying57 hlen hf hw 3 3 1 _ rfl rfl (by kernel_rfl) (Jt Tryz.underlying3)
  have g3:[c3]=_:=e3
  simp only[List.cons.injEq,and_true]at g3
  subst g3
  obtain⟨y4,e4,k4⟩:=FH Tryz.underlying57 hlen hf hw 4 4 1 _ rfl rfl (by kernel_rfl) (Jt Tryz.underlying3)
  have g4:[c4]=_:=e4
  simp only[List.cons.injEq,and_true]at g4
  subst g4
  obtain⟨y5,e5,k5⟩:=FH Tryz.underlying57 hlen hf hw 5 5 1 _ rfl rfl (by kernel_rfl) (Jt Tryz.underlying3)
  have g5:[c5]=_:=e5
  simp only[List.cons.injEq,and_true]at g5
  subst g5
  obtain⟨y6,e6,k6⟩:=FH Tryz.underlying57 hlen hf hw 6 6 1 _ rfl rfl (by kernel_rfl) (PL (cells:=AX.cells) (sz:=4) Tryz.underlying54 (by kernel_rfl) (fun _=>rfl) (by decide) (by kernel_rfl) rd_TRegion)
  have g6:[c6]=_:=e6
  simp only[List.cons.injEq,and_true]at g6
  subst g6
  obtain⟨y7,e7,k7⟩:=FH Tryz.underlying57 hlen hf hw 7 7 1 _ rfl rfl (by kernel_rfl) (PL (cells:=BR.cells) (sz:=2) Tryz.underlying55 (by kernel_rfl) (fun _=>rfl) (by decide) (by kernel_rfl) rd_TPort)
  have g7:[c7]=_:=e7
  simp only[List.cons.injEq,and_true]at g7
  subst g7
  exact⟨⟨y0,y1,y2,y3,y4,y5,y6,y7⟩,rfl,⟨⟨k0,k1,k2,k3,k4,k5,k6.1,k7.1⟩,k6.2,k7.2⟩⟩
theorem rd_Conf:Rd Tryz.prog 27 Ai.cells (fun F W x=>Ai.ok F W x∧VU x):=by
 intro H enc W fuel cs x hx hw
 obtain⟨xs,n, -,rfl,hl,hlen,hf⟩:=DataW.trod_struct Tryz.underlying27 hx
 rw[show Tryz.prog.cellsOf 27=7 from by kernel_rfl]at hl
 match cs,hl with
 | [c0,c1,c2,c3,c4,c5,c6],_ =>
  obtain⟨y0,e0,k0⟩:=FH Tryz.underlying27 hlen hf hw 0 0 1 _ rfl rfl (by kernel_rfl) (Jt Tryz.underlying3)
  have g0:[c0]=_:=e0
  simp only[List.cons.injEq,and_true]at g0
  subst g0
  obtain⟨y1,e1,k1⟩:=FH Tryz.underlying27 hlen hf hw 1 1 1 _ rfl rfl (by kernel_rfl) (Jt Tryz.underlying3)
  have g1:[c1]=_:=e1
  simp only[List.cons.injEq,and_true]at g1
  subst g1
  obtain⟨y2,e2,k2⟩:=FH Tryz.underlying27 hlen hf hw 2 2 1 _ rfl rfl (by kernel_rfl) (Jt Tryz.underlying3)
  have g2:[c2]=_:=e2
  simp only[List.cons.injEq,and_true]at g2
  subst g2
  obtain⟨y3,e3,k3⟩:=FH Tryz.underlying27 hlen hf hw 3 3 1 _ rfl rfl (by kernel_rfl) (Jt Tryz.underlying3)
  have g3:[c3]=_:=e3
  simp only[List.cons.injEq,and_true]at g3
  subst g3
  obtain⟨y4,e4,k4⟩:=FH Tryz.underlying27 hlen hf hw 4 4 1 _ rfl rfl (by kernel_rfl) (PL (cells:=(fun x:Sl A7=>[Sl.val x])) (sz:=1) Tryz.underlying23 (by kernel_rfl) (fun _=>rfl) (by decide) (by kernel_rfl) (PL (cells:=A7.cells) (sz:=3) Tryz.underlying50 (by kernel_rfl) (fun _=>rfl) (by decide) (by kernel_rfl) rd_TWindow))
  have g4:[c4]=_:=e4
  simp only[List.cons.injEq,and_true]at g4
  subst g4
  obtain⟨y5,e5,k5⟩:=FH Tryz.underlying27 hlen hf hw 5 5 1 _ rfl rfl (by kernel_rfl) (PL (cells:=Ap.cells) (sz:=8) Tryz.underlying24 (by kernel_rfl) (fun _=>rfl) (by decide) (by kernel_rfl) rd_PartB)
  have g5:[c5]=_:=e5
  simp only[List.cons.injEq,and_true]at g5
  subst g5
  obtain⟨y6,e6,k6⟩:=FH Tryz.underlying27 hlen hf hw 6 6 1 _ rfl rfl (by kernel_rfl) (PL (cells:=AQ.cells) (sz:=3) Tryz.underlying25 (by kernel_rfl) (fun _=>rfl) (by decide) (by kernel_rfl) rd_TChannel)
  have g6:[c6]=_:=e6
  simp only[List.cons.injEq,and_true]at g6
  subst g6
  exact⟨⟨y0,y1,y2,y3,y4,y5,y6⟩,rfl,⟨⟨k0,k1,k2,k3,⟨k4.1.1,fun i hi=>(k4.1.2 i hi).1⟩,⟨k5.1.1,fun i hi=>(k5.1.2 i hi).1⟩,k6.1⟩,⟨by have h:=k4.2;rw[(show Tryz.prog.bytesOf 50=24 from by kernel_rfl)]at h;exact h,by have h:=k5.2;rw[(show Tryz.prog.bytesOf 57=104 from by kernel_rfl)]at h;exact h,by have h:=k6.2;rw[(show Tryz.prog.bytesOf 49=24 from by kernel_rfl)]at h;exact h,fun i hi=>by have h:=(k4.1.2 i hi).2;rw[(show Tryz.prog.bytesOf 52=24 from by kernel_rfl)]at h;exact h,fun i hi=>by have h:=(k5.1.2 i hi).2.1;rw[(show Tryz.prog.bytesOf 64=32 from by kernel_rfl)]at h;exact h,fun i hi=>by have h:=(k5.1.2 i hi).2.2;rw[(show Tryz.prog.bytesOf 67=16 from by kernel_rfl)]at h;exact h⟩⟩⟩
theorem VU.sum{c:Ai}(h:VU c):c.Ac.xs.length+c.Aj.xs.length+c.Ar.xs.length≤15000000000000:=by
 have h1:=h.cl;have h2:=h.pl;have h3:=h.hl
 omega
theorem strP_eq{x y:Ap}(h:Jw x=Jw y):x.Name=y.Name∧x.Entry=y.Entry∧x.Dz=y.Dz∧x.AU=y.AU∧x.Dx=y.Dx∧x.AZ=y.AZ∧x.Ah.xs=y.Ah.xs∧x.Aq.xs=y.Aq.xs :=
 ⟨(by have:=congrArg Ap.Name h;exact this),(by have:=congrArg Ap.Entry h;exact this),(by have:=congrArg Ap.Dz h;exact this),(by have:=congrArg Ap.AU h;exact this),(by have:=congrArg Ap.Dx h;exact this),(by have:=congrArg Ap.AZ h;exact this),(by have:=congrArg (fun x:Ap=>x.Ah.xs) h;exact this),(by have:=congrArg (fun x:Ap=>x.Aq.xs) h;exact this)⟩
theorem strC_nums{x y:Ai}(h:strip x=strip y):x.Frames=y.Frames∧x.DD=y.DD∧x.Kernel=y.Kernel∧x.Room=y.Room :=
 ⟨(by have:=congrArg Ai.Frames h;exact this),(by have:=congrArg Ai.DD h;exact this),(by have:=congrArg Ai.Kernel h;exact this),(by have:=congrArg Ai.Room h;exact this)⟩
section
variable (z:Nat)(q p:Ap)
abbrev TS:=bk (z+1) (Ap.arr q) 57
abbrev TT:=bk z (Ap.arr p) 57
abbrev NG:=(3,pt (z+1))
end
theorem samep_yes(w:World)(p q:Ap)(hp:Ap.ok Any w p)(hq:Ap.ok Any w q)(hx:Jw p=Jw q):Calls Tryz.prog 20 #[.agg (Ap.arr p),.agg (Ap.arr q)] w fun e w'=>e = .returned (.bool true)∧BH (fun _=>False) w w':=by
 obtain⟨z,hz⟩:∃ z,z=w.heap.size:=⟨_,rfl⟩
 refine BA (args:=[.agg (Ap.arr p),.agg (Ap.arr q)]) 99 ⟨w,z,[(Ak w)]⟩ Tryz.func20 rfl (by kernel_rfl) (by kernel_rfl) (En hz) ?_
 obtain⟨hN,h1,h2,h3,h4,h5,hR,hO⟩:=strP_eq hx;have hl1:p.Ah.xs.length=q.Ah.xs.length:=by rw[hR]
 have hl2:p.Aq.xs.length=q.Aq.xs.length:=by rw[hO]
 have hb1:=hp.Ah.1.len;have hb2:=hp.Aq.1.len
 refine Cc [0,1] [(0,.agg (Ap.arr p)),(1,.agg (Ap.arr q))] ?_
 refine q_c 26 0 [0,0] [[o0,o0,o0],[o0,(a1 1),o0,(a1 2),(ov (.bool false)),o0,o0,(a1 1),o0,(a1 2),oF,o0,o0,o0,(a1 1),o0,(a1 2),oF,o0,o0,o0,(a1 1),o0,(a1 2),oF,o0,o0,o0,(a1 1),o0,(a1 2),oF,o0,o0,o0,(a1 1),o0,(a1 2),oF,o0],[o0,(a1 1),o0,o0,(a1 2),o0,oF,o0,o0,(a1 1),o0,o0,(a1 2),o0,oF,o0],[o0]] [Qb z,Qb (z+1),Value.bool (!(p.Name.toList==q.Name.toList))=Value.bool false,Qb z,Qb (z+1),NF p.Entry q.Entry,Qb z,Qb (z+1),NF p.Dz q.Dz,Qb z,Qb (z+1),NF p.AU q.AU,Qb z,Qb (z+1),NF p.Dx q.Dx,Qb z,Qb (z+1),NF p.AZ q.AZ,Qb z,Qb (z+1),NF (p.Ah.xs.length:Int) (q.Ah.xs.length:Int),Qb z,Qb (z+1),NF (p.Aq.xs.length:Int) (q.Aq.xs.length:Int)] [(2,pt z),(NG z),(5,i6 0)] ⟨w,z+2,[(Ak w),(TT z p),(TS z q)]⟩ rfl ⟨rfl,rfl,congrArg (fun t=>Value.bool (!t)) (beq_iff_eq.2 (congrArg ByteArray.toList hN)),rfl,rfl,nf,rfl,rfl,nf,rfl,rfl,nf,rfl,rfl,nf,rfl,rfl,nf,rfl,rfl,nf,rfl,rfl,nf,Ae⟩ ?_
 refine DI (fun m a w'=>∃ (n2:Nat) (i:Nat),m=p.Ah.xs.length - i∧z+2≤n2∧(i≤p.Ah.xs.length)∧St 99 [(2,pt z),(NG z),(5,Aa i)] [] ⟨w,n2,[(Ak w),(TT z p),(TS z q)]⟩ a w') (p.Ah.xs.length - 0) ?_ ?_
 ·intro a w' hs;exact⟨(z+2),0,rfl,Nat.le_refl _,Nat.zero_le _,hs⟩
 rintro m a w' ⟨n2,i,rfl,hn1,hki,hs⟩
 refine(?_:G Tryz.prog 99 [(2,pt z),(NG z),(5,Aa i)] [] ⟨w,n2,[(Ak w),(TT z p),(TS z q)]⟩ _ _ _) a w' hs
 clear hs a w'
 refine Dl <| Dl ?_
 by_cases h3:(i:Int)<(p.Ah.xs.length:Int)
 ·refine A8 9 0 [1] [[o0,o0,(a1 1),o0,oT]] [Qb z,BT ((i:Int)<(p.Ah.xs.length:Int))] [(2,pt z),(NG z),(5,Aa i),(67,.bool true)] rfl ⟨rfl,bt,Ae⟩ ?_
  obtain⟨b4,o5,ha6,hF8,hc7⟩:=(hp.Ah).1.all (show 0<p.Ah.xs.length by omega)
  replace ha6:p.Ah.a=some ⟨b4,o5,none⟩:=ha6
  have hc9:=hc7 i (show i<p.Ah.xs.length by omega)
  have he10:=(hp.Ah).2 i (show i<p.Ah.xs.length by omega)
  obtain⟨y11,hy11⟩:∃ y_,y_=gd p.Ah.xs i:=⟨_,rfl⟩
  rw[←hy11]at he10 hc9
  obtain⟨b12,o13,ha14,hF16,hc15⟩:=(hq.Ah).1.all (show 0<q.Ah.xs.length by omega)
  replace ha14:q.Ah.a=some ⟨b12,o13,none⟩:=ha14
  have hc17:=hc15 i (show i<q.Ah.xs.length by omega)
  have he18:=(hq.Ah).2 i (show i<q.Ah.xs.length by omega)
  obtain⟨y19,hy19⟩:∃ y_,y_=gd q.Ah.xs i:=⟨_,rfl⟩
  rw[←hy19]at he18 hc17
  have hpey19:y11=y19:=by rw[hy11,hy19,hR]
  refine DK 11 [0,1,2] [(Ak w),(TT z p),(TS z q)] rfl rfl ?_
  refine CP [(0,o0),(1,(J3 1 b4 o5 p.Ah)),(2,o0),(3,(oi i)),(4,(ol 0 (AX.arr y11))),(5,o0),(6,(J3 2 b12 o13 q.Ah)),(7,o0),(8,(oi i)),(9,(ol 0 (AX.arr y19))),(10,⟨.seq true,none⟩)] [2,3,5,80] [Qb z,IJ b4 o5 p.Ah,Ea i,i<p.Ah.xs.length,Ec,Hu w b4 (o5+i*4) (AX.arr y11),Qb (z+1),IJ b12 o13 q.Ah,Ea i,i<q.Ah.xs.length,Ec,Hu w b12 (o13+i*4) (AX.arr y19),((y11.CO:Int)==(y19.CO:Int)&&((y11.BO:Int)==(y19.BO:Int)&&((y11.Frame:Int)==(y19.Frame:Int)&&((y11.EM:Int)==(y19.EM:Int)&&true))))=true] (Dy 11 0) [(2,pt z),(NG z),(5,Aa i),(80,.bool false)] ⟨rfl,IK ha6,rfl,(by omega),rfl,EE hc9,rfl,IK ha14,rfl,(by omega),rfl,EE hc17,(by rw[hpey19];simp),Ae⟩ ?_
  refine CQ ?_
  refine Nl 7 0 [0] [[o0,(ov (i6 ((i+1:Nat):Int))),o0]] [Wr ((i:Int)+1) (((i+1:Nat):Int))] [(2,pt z),(NG z),(5,i6 ((i+1:Nat):Int))] rfl ⟨Dk,Ae⟩ ?_
  refine CS (fun a w' hs=>⟨p.Ah.xs.length - (i+1),by omega,n2,(i+1),rfl,by omega,by omega,hs⟩)
 refine A8 15 0 [0] [[o0,o0,(a1 1),o0,oF],[o0]] [Qb z,BF ((i:Int)<(p.Ah.xs.length:Int))] [(2,pt z),(NG z),(6,i6 0)] rfl ⟨rfl,bf,Ae⟩ ?_
 refine DI (fun m a w'=>∃ (n21:Nat) (k:Nat),m=p.Aq.xs.length - k∧n2≤n21∧(k≤p.Aq.xs.length)∧St 99 [(2,pt z),(NG z),(6,Aa k)] [] ⟨w,n21,[(Ak w),(TT z p),(TS z q)]⟩ a w') (p.Aq.xs.length - 0) ?_ ?_
 ·intro a w' hs;exact⟨n2,0,rfl,Nat.le_refl _,Nat.zero_le _,hs⟩
 rintro m a w' ⟨n21,k,rfl,hn20,hkk,hs⟩
 refine(?_:G Tryz.prog 99 [(2,pt z),(NG z),(6,Aa k)] [] ⟨w,n21,[(Ak w),(TT z p),(TS z q)]⟩ _ _ _) a w' hs
 clear hs a w'
 refine Dl <| Dl ?_
 by_cases h22:(k:Int)<(p.Aq.xs.length:Int)
 ·refine A8 9 0 [1] [[o0,o0,(a1 1),o0,oT]] [Qb z,BT ((k:Int)<(p.Aq.xs.length:Int))] [(2,pt z),(NG z),(6,Aa k),(85,.bool true)] rfl ⟨rfl,bt,Ae⟩ ?_
  obtain⟨b23,o24,ha25,hF27,hc26⟩:=(hp.Aq).1.all (show 0<p.Aq.xs.length by omega)
  replace ha25:p.Aq.a=some ⟨b23,o24,none⟩:=ha25
  have hc28:=hc26 k (show k<p.Aq.xs.length by omega)
  have he29:=(hp.Aq).2 k (show k<p.Aq.xs.length by omega)
  obtain⟨y30,hy30⟩:∃ y_,y_=gd p.Aq.xs k:=⟨_,rfl⟩
  rw[←hy30]at he29 hc28
  obtain⟨b31,o32,ha33,hF35,hc34⟩:=(hq.Aq).1.all (show 0<q.Aq.xs.length by omega)
  replace ha33:q.Aq.a=some ⟨b31,o32,none⟩:=ha33
  have hc36:=hc34 k (show k<q.Aq.xs.length by omega)
  have he37:=(hq.Aq).2 k (show k<q.Aq.xs.length by omega)
  obtain⟨y38,hy38⟩:∃ y_,y_=gd q.Aq.xs k:=⟨_,rfl⟩
  rw[←hy38]at he37 hc36
  have hpey38:y30=y38:=by rw[hy30,hy38,hO]
  refine DK 11 [0,1,2] [(Ak w),(TT z p),(TS z q)] rfl rfl ?_
  refine CP [(0,o0),(1,(J3 1 b23 o24 p.Aq)),(2,o0),(3,(oi k)),(4,(ol 0 (BR.arr y30))),(5,o0),(6,(J3 2 b31 o32 q.Aq)),(7,o0),(8,(oi k)),(9,(ol 0 (BR.arr y38))),(10,⟨.seq true,none⟩)] [2,3,6,98] [Qb z,IJ b23 o24 p.Aq,Ea k,k<p.Aq.xs.length,Ec,Hu w b23 (o24+k*2) (BR.arr y30),Qb (z+1),IJ b31 o32 q.Aq,Ea k,k<q.Aq.xs.length,Ec,Hu w b31 (o32+k*2) (BR.arr y38),((y30.Channel:Int)==(y38.Channel:Int)&&(y30.Source==y38.Source&&true))=true] (Dy 11 0) [(2,pt z),(NG z),(6,Aa k),(98,.bool false)] ⟨rfl,IK ha25,rfl,(by omega),rfl,EE hc28,rfl,IK ha33,rfl,(by omega),rfl,EE hc36,(by rw[hpey38];simp),Ae⟩ ?_
  refine CQ ?_
  refine Nl 7 0 [0] [[o0,(ov (i6 ((k+1:Nat):Int))),o0]] [Wr ((k:Int)+1) (((k+1:Nat):Int))] [(2,pt z),(NG z),(6,i6 ((k+1:Nat):Int))] rfl ⟨Dk,Ae⟩ ?_
  refine CS (fun a w' hs=>⟨p.Aq.xs.length - (k+1),by omega,n21,(k+1),rfl,by omega,by omega,hs⟩)
 refine A8 14 0 [0] [[o0,o0,(a1 1),o0,oF],[o0]] [Qb z,BF ((k:Int)<(p.Aq.xs.length:Int))] [(4,.bool true)] rfl ⟨rfl,bf,Ae⟩ ?_
 refine AP [] [] (.bool true) Ae ?_
 intro w39 hw39
 exact⟨rfl,Au hw39⟩
section
variable (z:Nat)(d c:Ai)
abbrev Nh:=bk (z+1) (Ai.arr d) 27
abbrev MS:=bk z (Ai.arr c) 27
abbrev H5:=(3,pt (z+1))
end
theorem same_yes(w:World)(c d:Ai)(hc:Ai.ok Any w c)(hd:Ai.ok Any w d)(hx:strip c=strip d):Calls Tryz.prog 8 #[.agg (Ai.arr c),.agg (Ai.arr d)] w fun e w'=>e = .returned (.bool true)∧BH (fun _=>False) w w':=by
 obtain⟨z,hz⟩:∃ z,z=w.heap.size:=⟨_,rfl⟩
 refine BA (args:=[.agg (Ai.arr c),.agg (Ai.arr d)]) 144 ⟨w,z,[(Ak w)]⟩ Tryz.func8 rfl (by kernel_rfl) (by kernel_rfl) (En hz) ?_
 obtain⟨h1,h2,h3,h4⟩:=strC_nums hx;obtain⟨hl1,hl2,hH,hC,hP⟩:=ZaN hx;have hl3:c.Aj.xs.length=d.Aj.xs.length:=by rw[hH]
 have hb1:=hc.Ar.1.len;have hb2:=hc.Ac.1.len;have hb3:=hc.Aj.1.len
 refine Cc [0,1] [(0,.agg (Ai.arr c)),(1,.agg (Ai.arr d))] ?_
 refine q_c 26 0 [0,0] [[o0,o0,o0],[o0,(a1 1),o0,(a1 2),oF,o0,o0,(a1 1),o0,(a1 2),oF,o0,o0,o0,(a1 1),o0,(a1 2),oF,o0,o0,o0,(a1 1),o0,(a1 2),oF,o0],[o0,(a1 1),o0,o0,(a1 2),o0,oF,o0,o0,(a1 1),o0,o0,(a1 2),o0,oF,o0,o0,o0,(a1 1),o0,o0,(a1 2),o0,oF,o0],[o0]] [Qb z,Qb (z+1),NF c.Frames d.Frames,Qb z,Qb (z+1),NF c.DD d.DD,Qb z,Qb (z+1),NF c.Kernel d.Kernel,Qb z,Qb (z+1),NF c.Room d.Room,Qb z,Qb (z+1),NF (c.Ar.xs.length:Int) (d.Ar.xs.length:Int),Qb z,Qb (z+1),NF (c.Ac.xs.length:Int) (d.Ac.xs.length:Int),Qb z,Qb (z+1),NF (c.Aj.xs.length:Int) (d.Aj.xs.length:Int)] [(2,pt z),(H5 z),(5,i6 0)] ⟨w,z+2,[(Ak w),(MS z c),(Nh z d)]⟩ rfl ⟨rfl,rfl,nf,rfl,rfl,nf,rfl,rfl,nf,rfl,rfl,nf,rfl,rfl,nf,rfl,rfl,nf,rfl,rfl,nf,Ae⟩ ?_
 refine DI (fun m a w'=>∃ (n2:Nat) (h0:Nat),m=c.Aj.xs.length - h0∧z+2≤n2∧(h0≤c.Aj.xs.length)∧St 144 [(2,pt z),(H5 z),(5,Aa h0)] [] ⟨w,n2,[(Ak w),(MS z c),(Nh z d)]⟩ a w') (c.Aj.xs.length - 0) ?_ ?_
 ·intro a w' hs;exact⟨(z+2),0,rfl,Nat.le_refl _,Nat.zero_le _,hs⟩
 rintro m a w' ⟨n2,h0,rfl,hn1,hkh0,hs⟩
 refine(?_:G Tryz.prog 144 [(2,pt z),(H5 z),(5,Aa h0)] [] ⟨w,n2,[(Ak w),(MS z c),(Nh z d)]⟩ _ _ _) a w' hs
 clear hs a w'
 refine Dl <| Dl ?_
 by_cases h3:(h0:Int)<(c.Aj.xs.length:Int)
 ·refine A8 9 0 [1] [[o0,o0,(a1 1),o0,oT]] [Qb z,BT ((h0:Int)<(c.Aj.xs.length:Int))] [(2,pt z),(H5 z),(5,Aa h0),(64,.bool true)] rfl ⟨rfl,bt,Ae⟩ ?_
  obtain⟨b4,o5,ha6,hF8,hc7⟩:=(hc.Aj).1.all (show 0<c.Aj.xs.length by omega)
  replace ha6:c.Aj.a=some ⟨b4,o5,none⟩:=ha6
  have hc9:=hc7 h0 (show h0<c.Aj.xs.length by omega)
  have he10:=(hc.Aj).2 h0 (show h0<c.Aj.xs.length by omega)
  obtain⟨y11,hy11⟩:∃ y_,y_=gd c.Aj.xs h0:=⟨_,rfl⟩
  rw[←hy11]at he10 hc9
  obtain⟨b12,o13,ha14,hF16,hc15⟩:=(hd.Aj).1.all (show 0<d.Aj.xs.length by omega)
  replace ha14:d.Aj.a=some ⟨b12,o13,none⟩:=ha14
  have hc17:=hc15 h0 (show h0<d.Aj.xs.length by omega)
  have he18:=(hd.Aj).2 h0 (show h0<d.Aj.xs.length by omega)
  obtain⟨y19,hy19⟩:∃ y_,y_=gd d.Aj.xs h0:=⟨_,rfl⟩
  rw[←hy19]at he18 hc17
  have hpey19:y11=y19:=by rw[hy11,hy19,hH]
  refine DK 11 [0,1,2] [(Ak w),(MS z c),(Nh z d)] rfl rfl ?_
  refine CP [(0,o0),(1,(J3 1 b4 o5 c.Aj)),(2,o0),(3,(oi h0)),(4,(ol 0 (AQ.arr y11))),(5,o0),(6,(J3 2 b12 o13 d.Aj)),(7,o0),(8,(oi h0)),(9,(ol 0 (AQ.arr y19))),(10,⟨.seq true,none⟩)] [2,3,5,77] [Qb z,IJ b4 o5 c.Aj,Ea h0,h0<c.Aj.xs.length,Ec,Hu w b4 (o5+h0*3) (AQ.arr y11),Qb (z+1),IJ b12 o13 d.Aj,Ea h0,h0<d.Aj.xs.length,Ec,Hu w b12 (o13+h0*3) (AQ.arr y19),((y11.Kind:Int)==(y19.Kind:Int)&&((y11.Words:Int)==(y19.Words:Int)&&((y11.Dj:Int)==(y19.Dj:Int)&&true)))=true] (Dy 11 0) [(2,pt z),(H5 z),(5,Aa h0),(77,.bool false)] ⟨rfl,IK ha6,rfl,(by omega),rfl,EE hc9,rfl,IK ha14,rfl,(by omega),rfl,EE hc17,(by rw[hpey19];simp),Ae⟩ ?_
  refine CQ ?_
  refine Nl 7 0 [0] [[o0,(ov (i6 ((h0+1:Nat):Int))),o0]] [Wr ((h0:Int)+1) (((h0+1:Nat):Int))] [(2,pt z),(H5 z),(5,i6 ((h0+1:Nat):Int))] rfl ⟨Dk,Ae⟩ ?_
  refine CS (fun a w' hs=>⟨c.Aj.xs.length - (h0+1),by omega,n2,(h0+1),rfl,by omega,by omega,hs⟩)
 refine A8 15 0 [0] [[o0,o0,(a1 1),o0,oF],[o0]] [Qb z,BF ((h0:Int)<(c.Aj.xs.length:Int))] [(2,pt z),(H5 z),(6,i6 0)] rfl ⟨rfl,bf,Ae⟩ ?_
 refine DI (fun m a w'=>∃ (n21:Nat) (i:Nat),m=c.Ar.xs.length - i∧n2≤n21∧(i≤c.Ar.xs.length)∧St 144 [(2,pt z),(H5 z),(6,Aa i)] [] ⟨w,n21,[(Ak w),(MS z c),(Nh z d)]⟩ a w') (c.Ar.xs.length - 0) ?_ ?_
 ·intro a w' hs;exact⟨n2,0,rfl,Nat.le_refl _,Nat.zero_le _,hs⟩
 rintro m a w' ⟨n21,i,rfl,hn20,hki,hs⟩
 refine(?_:G Tryz.prog 144 [(2,pt z),(H5 z),(6,Aa i)] [] ⟨w,n21,[(Ak w),(MS z c),(Nh z d)]⟩ _ _ _) a w' hs
 clear hs a w'
 refine Dl <| Dl ?_
 by_cases h22:(i:Int)<(c.Ar.xs.length:Int)
 ·refine A8 10 0 [1] [[o0,o0,(a1 1),o0,oT]] [Qb z,BT ((i:Int)<(c.Ar.xs.length:Int))] [(2,pt z),(H5 z),(6,Aa i),(82,.bool true)] rfl ⟨rfl,bt,Ae⟩ ?_
  obtain⟨b23,o24,ha25,hF27,hc26⟩:=(hc.Ar).1.all (show 0<c.Ar.xs.length by omega)
  replace ha25:c.Ar.a=some ⟨b23,o24,none⟩:=ha25
  have hc28:=hc26 i (show i<c.Ar.xs.length by omega)
  have he29:=(hc.Ar).2 i (show i<c.Ar.xs.length by omega)
  obtain⟨y30,hy30⟩:∃ y_,y_=gd c.Ar.xs i:=⟨_,rfl⟩
  rw[←hy30]at he29 hc28
  have hyl:=he29.1.len
  obtain⟨b31,o32,ha33,hF35,hc34⟩:=(hd.Ar).1.all (show 0<d.Ar.xs.length by omega)
  replace ha33:d.Ar.a=some ⟨b31,o32,none⟩:=ha33
  have hc36:=hc34 i (show i<d.Ar.xs.length by omega)
  have he37:=(hd.Ar).2 i (show i<d.Ar.xs.length by omega)
  obtain⟨y38,hy38⟩:∃ y_,y_=gd d.Ar.xs i:=⟨_,rfl⟩
  rw[←hy38]at he37 hc36
  have hpey38:=(by have h0:=hC i;rw[←hy30,←hy38]at h0;exact h0:y30.xs=y38.xs)
  have hley38:y30.xs.length=y38.xs.length:=by rw[hpey38]
  refine DK 13 [0,1,2] [(Ak w),(MS z c),(Nh z d)] rfl rfl ?_
  refine CP [(0,o0),(1,(J3 1 b23 o24 c.Ar)),(2,o0),(3,(oi i)),(4,(oa [.via 0 (.slice y30.a y30.xs.length y30.cap)])),(5,o0),(6,o0),(7,(J3 2 b31 o32 d.Ar)),(8,o0),(9,(oi i)),(10,(oa [.via 0 (.slice y38.a y38.xs.length y38.cap)])),(11,o0),(12,oF)] [2,3,6,97] [Qb z,IJ b23 o24 c.Ar,Ea i,i<c.Ar.xs.length,Ec,Old w b23 (o24+i) (.slice y30.a y30.xs.length y30.cap),Qb (z+1),IJ b31 o32 d.Ar,Ea i,i<d.Ar.xs.length,Ec,Old w b31 (o32+i) (.slice y38.a y38.xs.length y38.cap),NF (y30.xs.length:Int) (y38.xs.length:Int)] (Dy 13 0) [(2,pt z),(H5 z),(6,Aa i),(97,.bool false)] ⟨rfl,IK ha25,rfl,(by omega),rfl,Aw (hc28 0 _ rfl),rfl,IK ha33,rfl,(by omega),rfl,Aw (hc36 0 _ rfl),nf,Ae⟩ ?_
  refine CQ ?_
  refine Nl 9 0 [0] [[o0]] [] [(2,pt z),(H5 z),(6,Aa i),(7,i6 0)] rfl Ae ?_
  refine DI (fun m a w'=>∃ (n40:Nat) (k:Nat),m=y30.xs.length - k∧n21≤n40∧(k≤y30.xs.length)∧St 144 [(2,pt z),(H5 z),(6,Aa i),(7,Aa k)] [] ⟨w,n40,[(Ak w),(MS z c),(Nh z d)]⟩ a w') (y30.xs.length - 0) ?_ ?_
  ·intro a w' hs;exact⟨n21,0,rfl,Nat.le_refl _,Nat.zero_le _,hs⟩
  rintro m a w' ⟨n40,k,rfl,hn39,hkk,hs⟩
  refine(?_:G Tryz.prog 144 [(2,pt z),(H5 z),(6,Aa i),(7,Aa k)] [] ⟨w,n40,[(Ak w),(MS z c),(Nh z d)]⟩ _ _ _) a w' hs
  clear hs a w'
  refine Dl <| Dl ?_
  by_cases h41:(k:Int)<(y30.xs.length:Int)
  ·refine A8 9 0 [1] [[o0,o0,(J3 1 b23 o24 c.Ar),o0,(oi i),(oa [.via 0 (.slice y30.a y30.xs.length y30.cap)]),o0,oT]] [Qb z,IJ b23 o24 c.Ar,Ea i,i<c.Ar.xs.length,Ec,Old w b23 (o24+i) (.slice y30.a y30.xs.length y30.cap),BT ((k:Int)<(y30.xs.length:Int))] [(2,pt z),(H5 z),(6,Aa i),(7,Aa k),(105,.bool true)] rfl ⟨rfl,IK ha25,rfl,(by omega),rfl,Aw (hc28 0 _ rfl),bt,Ae⟩ ?_
   obtain⟨b42,o43,ha44,hF46,hc45⟩:=(he29).1.all (show 0<y30.xs.length by omega)
   replace ha44:y30.a=some ⟨b42,o43,none⟩:=ha44
   have hc47:=hc45 k (show k<y30.xs.length by omega)
   have he48:=(he29).2 k (show k<y30.xs.length by omega)
   obtain⟨y49,hy49⟩:∃ y_,y_=gd y30.xs k:=⟨_,rfl⟩
   rw[←hy49]at he48 hc47
   obtain⟨b50,o51,ha52,hF54,hc53⟩:=(he37).1.all (show 0<y38.xs.length by omega)
   replace ha52:y38.a=some ⟨b50,o51,none⟩:=ha52
   have hc55:=hc53 k (show k<y38.xs.length by omega)
   have he56:=(he37).2 k (show k<y38.xs.length by omega)
   obtain⟨y57,hy57⟩:∃ y_,y_=gd y38.xs k:=⟨_,rfl⟩
   rw[←hy57]at he56 hc55
   have hpey57:y49=y57:=by rw[hy49,hy57,hpey38]
   refine DK 17 [0,1,2] [(Ak w),(MS z c),(Nh z d)] rfl rfl ?_
   refine CP [(0,o0),(1,(J3 1 b23 o24 c.Ar)),(2,o0),(3,(oi i)),(4,⟨.auto [.via 0 (.slice y30.a y30.xs.length y30.cap)],some (.slice (some ⟨b42,o43,none⟩) y30.xs.length y30.cap)⟩),(5,o0),(6,(oi k)),(7,(ol 0 (A7.arr y49))),(8,o0),(9,(J3 2 b31 o32 d.Ar)),(10,o0),(11,(oi i)),(12,⟨.auto [.via 0 (.slice y38.a y38.xs.length y38.cap)],some (.slice (some ⟨b50,o51,none⟩) y38.xs.length y38.cap)⟩),(13,o0),(14,(oi k)),(15,(ol 0 (A7.arr y57))),(16,⟨.seq true,none⟩)] [2,3,6,7,124] [Qb z,IJ b23 o24 c.Ar,Ea i,i<c.Ar.xs.length,Ec,Old w b23 (o24+i) (.slice y30.a y30.xs.length y30.cap),IJ b42 o43 y30,Ea k,k<y30.xs.length,Ec,Hu w b42 (o43+k*3) (A7.arr y49),Qb (z+1),IJ b31 o32 d.Ar,Ea i,i<d.Ar.xs.length,Ec,Old w b31 (o32+i) (.slice y38.a y38.xs.length y38.cap),IJ b50 o51 y38,Ea k,k<y38.xs.length,Ec,Hu w b50 (o51+k*3) (A7.arr y57),((y49.Partition:Int)==(y57.Partition:Int)&&((y49.Bq:Int)==(y57.Bq:Int)&&((y49.AC:Int)==(y57.AC:Int)&&true)))=true] (Dy 17 0) [(2,pt z),(H5 z),(6,Aa i),(7,Aa k),(124,.bool false)] ⟨rfl,IK ha25,rfl,(by omega),rfl,Aw (hc28 0 _ rfl),IK ha44,rfl,(by omega),rfl,EE hc47,rfl,IK ha33,rfl,(by omega),rfl,Aw (hc36 0 _ rfl),IK ha52,rfl,(by omega),rfl,EE hc55,(by rw[hpey57];simp),Ae⟩ ?_
   refine CQ ?_
   refine Nl 7 0 [0] [[o0,(ov (i6 ((k+1:Nat):Int))),o0]] [Wr ((k:Int)+1) (((k+1:Nat):Int))] [(2,pt z),(H5 z),(6,Aa i),(7,i6 ((k+1:Nat):Int))] rfl ⟨Dk,Ae⟩ ?_
   refine CS (fun a w' hs=>⟨y30.xs.length - (k+1),by omega,n40,(k+1),rfl,by omega,by omega,hs⟩)
  refine A8 12 0 [0] [[o0,o0,(J3 1 b23 o24 c.Ar),o0,(oi i),(oa [.via 0 (.slice y30.a y30.xs.length y30.cap)]),o0,oF],[o0,(ov (i6 ((i+1:Nat):Int))),o0]] [Qb z,IJ b23 o24 c.Ar,Ea i,i<c.Ar.xs.length,Ec,Old w b23 (o24+i) (.slice y30.a y30.xs.length y30.cap),BF ((k:Int)<(y30.xs.length:Int)),Wr ((i:Int)+1) (((i+1:Nat):Int))] [(2,pt z),(H5 z),(6,i6 ((i+1:Nat):Int))] rfl ⟨rfl,IK ha25,rfl,(by omega),rfl,Aw (hc28 0 _ rfl),bf,Dk,Ae⟩ ?_
  refine CS (fun a w' hs=>⟨c.Ar.xs.length - (i+1),by omega,n40,(i+1),rfl,by omega,by omega,hs⟩)
 refine A8 15 0 [0] [[o0,o0,(a1 1),o0,oF],[o0]] [Qb z,BF ((i:Int)<(c.Ar.xs.length:Int))] [(2,pt z),(H5 z),(8,i6 0)] rfl ⟨rfl,bf,Ae⟩ ?_
 refine DI (fun m a w'=>∃ (n59:Nat) (p:Nat),m=c.Ac.xs.length - p∧n21≤n59∧(p≤c.Ac.xs.length)∧St 144 [(2,pt z),(H5 z),(8,Aa p)] [] ⟨w,n59,[(Ak w),(MS z c),(Nh z d)]⟩ a w') (c.Ac.xs.length - 0) ?_ ?_
 ·intro a w' hs;exact⟨n21,0,rfl,Nat.le_refl _,Nat.zero_le _,hs⟩
 rintro m a w' ⟨n59,p,rfl,hn58,hkp,hs⟩
 refine(?_:G Tryz.prog 144 [(2,pt z),(H5 z),(8,Aa p)] [] ⟨w,n59,[(Ak w),(MS z c),(Nh z d)]⟩ _ _ _) a w' hs
 clear hs a w'
 refine Dl <| Dl ?_
 by_cases h60:(p:Int)<(c.Ac.xs.length:Int)
 ·refine A8 9 0 [1] [[o0,o0,(a1 1),o0,oT]] [Qb z,BT ((p:Int)<(c.Ac.xs.length:Int))] [(2,pt z),(H5 z),(8,Aa p),(129,.bool true)] rfl ⟨rfl,bt,Ae⟩ ?_
  obtain⟨b61,o62,ha63,hF65,hc64⟩:=(hc.Ac).1.all (show 0<c.Ac.xs.length by omega)
  replace ha63:c.Ac.a=some ⟨b61,o62,none⟩:=ha63
  have hc66:=hc64 p (show p<c.Ac.xs.length by omega)
  have he67:=(hc.Ac).2 p (show p<c.Ac.xs.length by omega)
  obtain⟨y68,hy68⟩:∃ y_,y_=gd c.Ac.xs p:=⟨_,rfl⟩
  rw[←hy68]at he67 hc66
  obtain⟨b69,o70,ha71,hF73,hc72⟩:=(hd.Ac).1.all (show 0<d.Ac.xs.length by omega)
  replace ha71:d.Ac.a=some ⟨b69,o70,none⟩:=ha71
  have hc74:=hc72 p (show p<d.Ac.xs.length by omega)
  have he75:=(hd.Ac).2 p (show p<d.Ac.xs.length by omega)
  obtain⟨y76,hy76⟩:∃ y_,y_=gd d.Ac.xs p:=⟨_,rfl⟩
  rw[←hy76]at he75 hc74
  have hpey76:=(by have h0:=hP p;rw[←hy68,←hy76]at h0;exact h0:Jw y68=Jw y76)
  refine DK 12 [0,1,2] [(Ak w),(MS z c),(Nh z d)] rfl rfl ?_
  refine CP [(0,o0),(1,(J3 1 b61 o62 c.Ac)),(2,o0),(3,(oi p)),(4,(ol 0 (Ap.arr y68))),(5,o0),(6,(J3 2 b69 o70 d.Ac)),(7,o0),(8,(oi p)),(9,(ol 0 (Ap.arr y76)))] [2,3,8,136,141] [Qb z,IJ b61 o62 c.Ac,Ea p,p<c.Ac.xs.length,Ec,Hu w b61 (o62+p*8) (Ap.arr y68),Qb (z+1),IJ b69 o70 d.Ac,Ea p,p<d.Ac.xs.length,Ec,Hu w b69 (o70+p*8) (Ap.arr y76)] (Dy 10 2) [(2,pt z),(H5 z),(8,Aa p),(136,.agg (Ap.arr y68)),(141,.agg (Ap.arr y76))] ⟨rfl,IK ha63,rfl,(by omega),rfl,EE hc66,rfl,IK ha71,rfl,(by omega),rfl,EE hc74,Ae⟩ ?_
  refine AV 10 ?_
  refine Ik [] [] 20 #[.agg (Ap.arr y68),.agg (Ap.arr y76)] (some 142) (by as_aux_lemma=>kernel_rfl) rfl rfl Ae ?_
  intro w77 hw77
  refine(samep_yes w77 y68 y76 (he67.ext (hw77.ext rfl) (fun _ h=>h)) (he75.ext (hw77.ext rfl) (fun _ h=>h)) hpey76).mono ?_
  rintro e w78 ⟨rfl,hkw78⟩
  have hnw78:n59≤w78.heap.size:=AY hw77 hkw78
  have hs79:=hw77.keeps hkw78
  refine⟨_,_,rfl,hs79,.inr (fun c hc=>hs79.all c (by first | exact hc | exact Cm (is:=[0,1,2]) rfl c hc)), ?_⟩
  refine CB [2,3,8,142] [(2,pt z),(H5 z),(8,Aa p),(142,.bool true)] ?_
  refine CP [(11,o0)] [2,3,8,143] [] (Dy 12 0) [(2,pt z),(H5 z),(8,Aa p),(143,.bool false)] Ae ?_
  refine CQ ?_
  refine Nl 7 0 [0] [[o0,(ov (i6 ((p+1:Nat):Int))),o0]] [Wr ((p:Int)+1) (((p+1:Nat):Int))] [(2,pt z),(H5 z),(8,i6 ((p+1:Nat):Int))] rfl ⟨Dk,Ae⟩ ?_
  refine CS (fun a w' hs=>⟨c.Ac.xs.length - (p+1),by omega,w78.heap.size,(p+1),rfl,by omega,by omega,hs⟩)
 refine A8 14 0 [0] [[o0,o0,(a1 1),o0,oF],[o0]] [Qb z,BF ((p:Int)<(c.Ac.xs.length:Int))] [(4,.bool true)] rfl ⟨rfl,bf,Ae⟩ ?_
 refine AP [] [] (.bool true) Ae ?_
 intro w80 hw80
 exact⟨rfl,Au hw80⟩
end Go.Proofs.YtekjfiegdpoajaaGreatDoor.Ad
namespace Go.Proofs.YtekjfiegdpoajaaGreatDoor.Bz
open Go Go.Proofs.YtekjfiegdpoajaaGreatDoor.Eng Go.Proofs.YtekjfiegdpoajaaGreatDoor.Mem Go.Proofs.YtekjfiegdpoajaaGreatDoor.Ly Go.Proofs.YtekjfiegdpoajaaGreatDoor.Ad Go.Proofs.YtekjfiegdpoajaaGreatDoor.Cf
set_option linter.unusedSimpArgs false
set_option linter.unusedVariables false
set_option maxRecDepth 100000
theorem sat_pqG{w:World}{p q:Nat}{cp cq:Array Value}{tp tq:TypeId}(hp:At w p (.cells cp tp (0,0)))(hq:At w q (.cells cq tq (0,0)))(hpq:p≠q):Sat ⟨w,w.heap.size,[old (fun b=>b=p∨b=q) w,.blk p (.cells cp tp (0,0)) true,.blk q (.cells cq tq (0,0)) true]⟩ w :=
 P9 w _ _ (fun c hc=>by
  simp only[List.mem_cons,List.not_mem_nil,or_false]at hc
  rcases hc with rfl | rfl
  ·exact⟨hp,Ch.EJ _ _ _,fun b hb=>by
    have hb':b=p:=hb
    exact⟨by rw[hb'];exact(Array.getElem?_eq_some_iff.1 hp).1,.inl hb'⟩⟩
  ·exact⟨hq,Ch.EJ _ _ _,fun b hb=>by
    have hb':b=q:=hb
    exact⟨by rw[hb'];exact(Array.getElem?_eq_some_iff.1 hq).1,.inr hb'⟩⟩) (by
  simp only[List.map_cons,List.map_nil,List.pairwise_cons,List.mem_singleton,forall_eq,List.not_mem_nil,false_imp_iff,implies_true,List.Pairwise.nil,and_true]
  intro _ b hb hb2
  have h1:b=p:=hb
  have h2:b=q:=hb2
  exact hpq (h1.symm.trans h2))
theorem SatpqG{A:AW}{w w':World}{i j p q:Nat}{cp cq cp' cq':Array Value}{tp tq:TypeId}{kept:List Ch}(h:Sat A w)(is:List Nat)(hi:A.σ[i]? = some (.blk p (.cells cp tp (0,0)) true))(hj:A.σ[j]? = some (.blk q (.cells cq tq (0,0)) true))(hne:i≠j)(hnd:nodupB is=true)(hp:picks is A.σ=some kept)(hni:is.contains i=false)(hnj:is.contains j=false) (h1:At w' p (.cells cp' tp (0,0)))(h2:At w' q (.cells cq' tq (0,0)))(hk:BH (fun b=>b=p∨b=q) w w') :
   Sat { A with n:=w'.heap.size,σ:=kept++[.blk p (.cells cp' tp (0,0)) true,.blk q (.cells cq' tq (0,0)) true] } w':=by
 have hpk:picks [i,j] A.σ=some [.blk p (.cells cp tp (0,0)) true,.blk q (.cells cq tq (0,0)) true]:=by simp[picks,hi,hj]
 refine h.turn is [i,j] hnd hp hpk (by
   rw[List.all_eq_true]
   intro k hk
   rw[List.contains_eq_mem]at hni hnj
   simp only[decide_eq_false_iff_not]at hni hnj
   simp only[List.contains_cons,List.contains_nil,Bool.or_false,Bool.not_eq_true',Bool.or_eq_false_iff,beq_eq_false_iff_ne]
   exact⟨fun e=>hni (e ▸ hk),fun e=>hnj (e ▸ hk)⟩) (fun c hc=>by simp only[List.mem_cons,List.not_mem_nil,or_false]at hc;rcases hc with rfl | rfl <;> rfl) (hk.mono (fun b _ hb=>hb.elim (fun x=>⟨_,List.mem_cons_self ..,x⟩) (fun x=>⟨_,List.mem_cons_of_mem _ (List.mem_cons_self ..),x⟩))) (fun c hc=>by
   simp only[List.mem_cons,List.not_mem_nil,or_false]at hc
   rcases hc with rfl | rfl
   · exact⟨h1,Ch.EJ _ _ _,fun b hb=>by
       have hb':b=p:=hb
       subst hb'
       exact⟨(Array.getElem?_eq_some_iff.1 h1).1,.inl ⟨_,List.mem_cons_self ..,rfl⟩⟩⟩
   · exact⟨h2,Ch.EJ _ _ _,fun b hb=>by
       have hb':b=q:=hb
       subst hb'
       exact⟨(Array.getElem?_eq_some_iff.1 h2).1,.inl ⟨_,List.mem_cons_of_mem _ (List.mem_cons_self ..),rfl⟩⟩⟩) ?_
 simp only[List.map_cons,List.map_nil,List.pairwise_cons,List.mem_singleton,forall_eq,List.not_mem_nil,false_imp_iff,implies_true,List.Pairwise.nil,and_true]
 intro _ b hb hb2
 exact h.two hi hj hne rfl b hb hb2
theorem plC_strip{c d:Ai}(h:strip d=strip c):GK d=GK c:=by
 have hp:∀ x:Ap,PX (Jw x)=PX x:=fun _=>rfl
 have h0:∀ x:Ai,GK (strip x)=GK x:=fun x=>by
  unfold GK strip
  simp only[List.map_map,N7]
  congr 1
 rw[←h0 d,h,h0]
theorem map_eq{α β γ:Type}{f:α→β}{g:α→γ}{k:β→γ}(h:∀ x,g x=k (f x)){xs ys:List α}(e:xs.map f=ys.map f):xs.map g=ys.map g:=by
 have e1:∀ zs:List α,zs.map g=(zs.map f).map k:=fun zs=>by rw[List.map_map];exact List.map_congr_left fun x _=>h x
 rw[e1,e,e1]
theorem WP{c d:Ai}(h:GK d=GK c):strip d=strip c:=by
 have n1:d.Frames=c.Frames:=congrArg IW.Frames h
 have n2:d.DD=c.DD:=congrArg IW.DD h
 have n3:d.Kernel=c.Kernel:=congrArg IW.Kernel h
 have n4:d.Room=c.Room:=congrArg IW.Room h
 have n5:d.Ar.xs.map Sl.xs=c.Ar.xs.map Sl.xs:=congrArg IW.Ar h
 have n6:d.Ac.xs.map PX=c.Ac.xs.map PX:=congrArg IW.Ac h
 have n7:d.Aj.xs=c.Aj.xs:=congrArg IW.Aj h
 have e5:=map_eq (f:=Sl.xs) (g:=N7) (k:=fun x=>(⟨none,0,x⟩:Sl A7)) (fun _=>rfl) n5
 have e6:=map_eq (f:=PX) (g:=Jw) (k:=fun x=>(⟨x.Name,x.Entry,x.Dz,x.AU,x.Dx,x.AZ,⟨none,0,x.Ah⟩,⟨none,0,x.Aq⟩⟩:Ap)) (fun _=>rfl) n6
 unfold strip
 rw[n1,n2,n3,n4,e5,e6]
 simp only[N7,n7]
theorem QM{w w':World}{c d:Ai}(hc:Ai.ok Any w c)(hd:Ai.ok Any w' d)(h:strip d=strip c):Ie d=Ie c∧(Ie c=true→JG d=JG c):=by
 have hp:=plC_strip h
 have i1:=Yg (Q5 hc)
 have i2:=Yg (Q5 hd)
 rw[hp]at i2
 have e:Ie d=Ie c:=by rw[Bool.eq_iff_iff,i1,i2]
 refine⟨e,fun hk => ?_⟩
 have ho:=i1.1 hk
 rw[Z5 (Q5 hc) ho,Z5 (Q5 hd) (hp ▸ ho),hp]
theorem ZaV{c:Ai}(ho:Ns (GK c)):c.Ac.xs.length+c.Aj.xs.length+c.Ar.xs.length≤15000000000000:=by
 obtain⟨-, -, -, -,o5,o6,o7⟩:=ho
 have l5:c.Ar.xs.length≤255:=by have:=o5.1;simpa[GK]using this
 have l6:c.Ac.xs.length≤255:=by have:=o6.1;simpa[GK]using this
 have l7:c.Aj.xs.length≤255:=by have:=o7.1;simpa[GK]using this
 omega
theorem adm1_A(w:World)(p q:Nat)(e0:Int)(he:e0=0)(c0:Ai)(hp:At w p (.cells #[.int .i64 e0] 28 (0,0)))(hq:At w q (.cells (Ai.arr c0) 27 (0,0)))(hpq:p≠q):CallsD Tryz.prog 17 #[.pointer (some ⟨p,0,none⟩),.pointer (some ⟨q,0,none⟩)] .returning w fun e u' w'=>e = .returned (.tuple #[])∧settle u' = .returning∧At w' p (.cells #[.int .i64 e0] 28 (0,0))∧At w' q (.cells (Ai.arr c0) 27 (0,0))∧BH (fun b=>b=p∨b=q) w w':=by
 obtain⟨z,hz⟩:∃ z,z=w.heap.size:=⟨_,rfl⟩
 refine callsD_of_wpS Tryz.func17 rfl fun c₀ cs hu => ?_
 refine wpS_of_wp ?_
 refine(?_:G Tryz.prog 5 [(0,.pointer (some ⟨p,0,none⟩)),(1,.pointer (some ⟨q,0,none⟩))] [] ⟨w,z,[(old (fun b=>b=p∨b=q) w),(.blk p (.cells #[.int .i64 e0] 28 (0,0)) true),(.blk q (.cells (Ai.arr c0) 27 (0,0)) true)]⟩ _ [] _) _ _ ⟨rfl,rfl, ?_,hz ▸ sat_pqG hp hq hpq⟩
 rotate_left
 ·intro t v ht
  have hm:=Un ht
  simp only[List.mem_cons,Prod.mk.injEq,List.not_mem_nil,or_false]at hm
  rcases hm with⟨rfl,rfl⟩ | ⟨rfl,rfl⟩ <;> rfl
 refine Dl <| KG <| Rh 2 [(oa [.at 1]),oF] [1,3] [Qb p,NF e0 0] [(1,.pointer (some ⟨q,0,none⟩)),(3,.bool false)] ⟨w,z,[(old (fun b=>b=p∨b=q) w),(.blk p (.cells #[.int .i64 e0] 28 (0,0)) true),(.blk q (.cells (Ai.arr c0) 27 (0,0)) true)]⟩ ⟨rfl,nf,Ae⟩ ?_
 refine FX <| Vf <| g_skip ?_
 -- the function's end
 intro a w1 hst
 refine⟨hst.df,_,rfl,.tuple #[], ?_,rfl,(by rw[hu];rfl),hst.mem.at (i:=1) rfl,hst.mem.at (i:=2) rfl,hst.mem.back rfl (show w.heap.size≤z by omega) (List.mem_cons_self ..)⟩
 simp[results,Tryz.results17]
theorem adm1_B(w:World)(p q:Nat)(e0:Int)(he:e0≠0)(c0:Ai)(hp:At w p (.cells #[.int .i64 e0] 28 (0,0)))(hq:At w q (.cells (Ai.arr c0) 27 (0,0)))(hpq:p≠q):CallsD Tryz.prog 17 #[.pointer (some ⟨p,0,none⟩),.pointer (some ⟨q,0,none⟩)] .returning w fun e u' w'=>e = .returned (.tuple #[])∧settle u' = .returning∧At w' p (.cells #[.int .i64 e0] 28 (0,0))∧At w' q (.cells (Ai.arr Qw) 27 (0,0))∧BH (fun b=>b=p∨b=q) w w':=by
 obtain⟨z,hz⟩:∃ z,z=w.heap.size:=⟨_,rfl⟩
 refine callsD_of_wpS Tryz.func17 rfl fun c₀ cs hu => ?_
 refine wpS_of_wp ?_
 refine(?_:G Tryz.prog 5 [(0,.pointer (some ⟨p,0,none⟩)),(1,.pointer (some ⟨q,0,none⟩))] [] ⟨w,z,[(old (fun b=>b=p∨b=q) w),(.blk p (.cells #[.int .i64 e0] 28 (0,0)) true),(.blk q (.cells (Ai.arr c0) 27 (0,0)) true)]⟩ _ [] _) _ _ ⟨rfl,rfl, ?_,hz ▸ sat_pqG hp hq hpq⟩
 rotate_left
 ·intro t v ht
  have hm:=Un ht
  simp only[List.mem_cons,Prod.mk.injEq,List.not_mem_nil,or_false]at hm
  rcases hm with⟨rfl,rfl⟩ | ⟨rfl,rfl⟩ <;> rfl
 refine Dl <| KG <| Rh 2 [(oa [.at 1]),oT] [1,3] [Qb p,NT e0 0] [(1,.pointer (some ⟨q,0,none⟩)),(3,.bool true)] ⟨w,z,[(old (fun b=>b=p∨b=q) w),(.blk p (.cells #[.int .i64 e0] 28 (0,0)) true),(.blk q (.cells (Ai.arr c0) 27 (0,0)) true)]⟩ ⟨rfl,nt,Ae⟩ ?_
 refine FX <| WA <| KG <| Rh 2 [o0,(oa [.at 2,.at 2,.at 2,.at 2,.at 2,.at 2,.at 2])] [] [Qb q,Qb q,Qb q,Qb q,Qb q,Qb q,Qb q] [] ⟨w,z,[(old (fun b=>b=p∨b=q) w),(.blk p (.cells #[.int .i64 e0] 28 (0,0)) true),(.blk q (.cells #[.int .i64 0,.int .i64 0,.int .i64 0,.int .i64 0,.slice none 0 0,.slice none 0 0,.slice none 0 0] 27 (0,0)) true)]⟩ ⟨rfl,rfl,rfl,rfl,rfl,rfl,rfl,Ae⟩ ?_
 -- the function's end
 intro a w1 hst
 refine⟨hst.df,_,rfl,.tuple #[], ?_,rfl,(by rw[hu];rfl),hst.mem.at (i:=1) rfl,hst.mem.at (i:=2) rfl,hst.mem.back rfl (show w.heap.size≤z by omega) (List.mem_cons_self ..)⟩
 simp[results,Tryz.results17]
section
variable (z:Nat)(x3:Ai)(w:World)
abbrev qu4v_0:=bk (z+2) #[i6 ((Ce x3).Ag.First),i6 ((Ce x3).Ag.Second)] 30
abbrev qu4v_1:=bk (z+1) #[i6 ((Ce x3).e)] 28
abbrev qu4v_2:=bk z (Ai.arr x3) 27
abbrev qu4v_3:=BB z 57 8 Ap.cells (.slice x3.Ac.a x3.Ac.xs.length x3.Ac.cap) x3.Ac.xs
abbrev qu4v_4:=BB z 50 1 (fun x:Sl A7=>[Sl.val x]) (.slice x3.Ar.a x3.Ar.xs.length x3.Ar.cap) x3.Ar.xs
abbrev qu4v_5:=BB z 49 3 AQ.cells (.slice x3.Aj.a x3.Aj.xs.length x3.Aj.cap) x3.Aj.xs
abbrev qu4v_6:=Ed z 64 4 AX.cells (x3.Ac.xs.map Ap.Ah)
abbrev ZaI:=Ed z 67 2 BR.cells (x3.Ac.xs.map Ap.Aq)
abbrev qu4v_8:Dv:=(27,.agg #[i6 ((Ce x3).Ag.First),i6 ((Ce x3).Ag.Second)])
abbrev Pv:=(3,pt (z+1))
abbrev NW:=(4,pt (z+2))
abbrev QR:=[(Ak w),(qu4v_2 z x3),(qu4v_1 z x3),(qu4v_0 z x3),(qu4v_4 z x3),(Ed z 52 3 A7.cells x3.Ar.xs),(qu4v_3 z x3),(qu4v_6 z x3),(ZaI z x3),(qu4v_5 z x3)]
end
theorem admit_good(w:World)(hL:Gf w)(b:Sl Int)(hb:FV Ew 1 Any w b)(hB:Gj b.xs)(p:IW)(hD:IV b.xs = .ok p)(hok:Ns p)(hzc:∀ d,GK d=p→(Ce d).e=0):Calls Tryz.prog 7 #[.slice b.a b.xs.length b.cap] w fun e w'=>∃ d,GK d=p∧e = .returned (.tuple #[.agg (Ai.arr d),.int .i64 (Ce d).e,.agg #[.int .i64 (Ce d).Ag.First,.int .i64 (Ce d).Ag.Second]])∧UY w.heap.size w' d∧BH (fun _=>False) w w':=by
 obtain⟨z,hz⟩:∃ z,z=w.heap.size:=⟨_,rfl⟩
 refine Ur (args:=[.slice b.a b.xs.length b.cap]) 28 ⟨w,z,[(Ak w)]⟩ Tryz.func7 rfl (by kernel_rfl) (by kernel_rfl) (En hz) ?_
 refine Cc [0] [(0,.slice b.a b.xs.length b.cap)] ?_
 refine q_c 6 1 [] [[o0,o0,o0],[o0]] [] [(0,.slice b.a b.xs.length b.cap),(2,pt z),(Pv z),(NW z),(7,.func (.func 17) #[] #[pt (z+1),pt z])] ⟨w,z+3,[(Ak w),(bk z #[i6 0,i6 0,i6 0,i6 0,.slice none 0 0,.slice none 0 0,.slice none 0 0] 27),(bk (z+1) #[i6 0] 28),(bk (z+2) #[i6 0,i6 0] 30)]⟩ rfl Ae ?_
 refine l_defer ({ target:= .fn (.func 17) #[pt (z+1),pt z],args:= #[] }) ?_
 refine Bv 4 1 [] [[],[o0]] [] [(2,pt z),(Pv z),(NW z),(9,.slice b.a b.xs.length b.cap)] rfl Ae ?_
 refine l_call [] [] 18 #[.slice b.a b.xs.length b.cap] (some 10) Ae ?_
 intro w1 hw1
 refine(decode_ok w1 b (Jy (hw1.ext rfl) (fun _ h=>h) hb) hB p hD).mono ?_
 rintro e w2 ⟨x3,hplx3,rfl,hMw2,hkw2⟩
 obtain⟨hnw2,hSw2⟩:=Zbj hw1 hkw2 hMw2 z (show z≤z+3 by omega);have hnw2':z+3≤w2.heap.size:=hnw2
 refine⟨_,_,rfl,hSw2, ?_⟩
 have hokx3:Ns (GK x3):=hplx3 ▸ hok
 have hzx3:=hzc x3 hplx3
 refine EG 12 1 [0] [[o0,o0,o0,o0,(an 7 1),o0,o0],[o0,o0],[(an 7 1)]] [Qb z,Qb z,Qb z,Qb z,Qb z,Qb z,Qb z,Qb z,Qb z,Qb z,Qb z,Qb z,Qb z,Qb z] [(2,pt z),(Pv z),(NW z),(21,.agg (Ai.arr x3))] ⟨w,w2.heap.size,[(Ak w),(qu4v_2 z x3),(bk (z+1) #[i6 0] 28),(bk (z+2) #[i6 0,i6 0] 30),(qu4v_4 z x3),(Ed z 52 3 A7.cells x3.Ar.xs),(qu4v_3 z x3),(qu4v_6 z x3),(ZaI z x3),(qu4v_5 z x3)]⟩ rfl ⟨rfl,rfl,rfl,rfl,rfl,rfl,rfl,rfl,rfl,rfl,rfl,rfl,rfl,rfl,Ae⟩ ?_
 refine l_call [] [] 14 #[.agg (Ai.arr x3)] (some 22) Ae ?_
 intro w4 hw4
 refine(NK w4 (hL.ext (hw4.ext rfl)) x3 (conf_sat (c:=x3) (z:=z) hw4 [4,5,6,7,8,9] hokx3) (ZaV hokx3)).mono ?_
 rintro e w5 ⟨rfl,hkw5⟩
 have hnw5:w2.heap.size≤w5.heap.size:=AY hw4 hkw5
 refine⟨_,_,rfl,hw4.keeps hkw5, ?_⟩
 refine EG 3 0 [] [[o0,o0,o0,(a1 2),(an 2 3)]] [Qb (z+1),Qb (z+2),Qb (z+2)] [(2,pt z),(Pv z),(NW z)] ⟨w,w5.heap.size,(QR z x3 w)⟩ rfl ⟨rfl,rfl,rfl,Ae⟩ ?_
 refine DK 5 [0,1,2,3,4,5,6,7,8,9] (QR z x3 w) rfl rfl ?_
 refine CP [(0,(an 7 1)),(1,(a1 2)),(2,(an 2 3))] [2,3,4,25,26,27] [Qb z,Qb z,Qb z,Qb z,Qb z,Qb z,Qb z,Qb (z+1),Qb (z+2),Qb (z+2)] [true,true,true,false,false,false] [(2,pt z),(Pv z),(NW z),(25,.agg (Ai.arr x3)),(26,i6 ((Ce x3).e)),(qu4v_8 x3)] ⟨rfl,rfl,rfl,rfl,rfl,rfl,rfl,rfl,rfl,rfl,Ae⟩ ?_
 refine AV 3 ?_
 refine Bi (an 7 1) [2,3,4,26,27] [Qb z,Qb z,Qb z,Qb z,Qb z,Qb z,Qb z] [(2,pt z),(Pv z),(NW z),(26,i6 ((Ce x3).e)),(qu4v_8 x3)] ⟨w,w5.heap.size,(QR z x3 w)⟩ [0,1,2,3,4,5,6,7,8,9] ⟨rfl,rfl,rfl,rfl,rfl,rfl,rfl,Ae⟩ (.inr rfl) ?_
 refine AV 4 ?_
 refine Bi (a1 2) [2,3,4,27] [Qb (z+1)] [(2,pt z),(Pv z),(NW z),(qu4v_8 x3)] ⟨w,w5.heap.size,(QR z x3 w)⟩ [0,1,2,3,4,5,6,7,8,9] ⟨rfl,Ae⟩ (.inr rfl) ?_
 refine AV 5 ?_
 refine Bi (an 2 3) [2,3,4] [Qb (z+2),Qb (z+2)] [(2,pt z),(Pv z),(NW z)] ⟨w,w5.heap.size,(QR z x3 w)⟩ [] ⟨rfl,rfl,Ae⟩ (.inl rfl) ?_
 refine D9 6 [0,1,2,3,4,5,6,7,8,9] (QR z x3 w) rfl rfl ?_
 refine CQ ?_
 refine Cb [2,3,4] [(2,pt z),(Pv z),(NW z)] ?_
 refine FX <| Jh <| Vg (f:=17) (args:= #[pt (z+1),pt z]) (fun _=>by simp[go_sem]) (fun w6 hw6 => ?_)
 refine(adm1_A w6 (z+1) z _ hzx3 _ (hw6.at (i:=2) rfl) (hw6.at (i:=1) rfl) (by omega)).mono ?_
 rintro e u w7 ⟨rfl,hu,hp1,hq1,hkw7⟩
 have hnw7:w5.heap.size≤w7.heap.size:=AY hw6 hkw7
 refine⟨_,rfl,hu,_,SatpqG hw6 [0,3,4,5,6,7,8,9] (i:=2) (j:=1) rfl rfl (by decide) rfl rfl rfl rfl hp1 hq1 hkw7, ?_⟩
 refine AP [.at 9,.at 9,.at 9,.at 9,.at 9,.at 9,.at 9,.at 8,.at 1,.at 1] [Qb z,Qb z,Qb z,Qb z,Qb z,Qb z,Qb z,Qb (z+1),Qb (z+2),Qb (z+2)] (.tuple #[.agg #[i6 x3.Frames,i6 x3.DD,i6 x3.Kernel,i6 x3.Room,.slice x3.Ar.a x3.Ar.xs.length x3.Ar.cap,.slice x3.Ac.a x3.Ac.xs.length x3.Ac.cap,.slice x3.Aj.a x3.Aj.xs.length x3.Aj.cap],i6 ((Ce x3).e),.agg #[i6 ((Ce x3).Ag.First),i6 ((Ce x3).Ag.Second)]]) ⟨rfl,rfl,rfl,rfl,rfl,rfl,rfl,rfl,rfl,rfl,Ae⟩ ?_
 intro w8 hw8
 have hO:UY z w8 x3:=⟨w,by
  have h4:=hw8.pick [2,3,4,5,6,7] rfl rfl
  rw[hw8.size]
  unfold confS Sl.val
  (try dsimp only[qu4v_0,qu4v_1,qu4v_2,qu4v_3,qu4v_4,qu4v_5,qu4v_6,ZaI,Pv,NW,QR]at h4)
  exact h4⟩
 exact⟨x3,hplx3,rfl,hz ▸ hO,Au hw8⟩
section
variable (z:Nat)(x3:Ai)(w:World)
abbrev qar1_0:=bk (z+2) #[i6 ((Ce x3).Ag.First),i6 ((Ce x3).Ag.Second)] 30
abbrev qar1_1:=bk (z+1) #[i6 ((Ce x3).e)] 28
abbrev qar1_2:=bk z (Ai.arr x3) 27
abbrev qar1_3:=BB z 57 8 Ap.cells (.slice x3.Ac.a x3.Ac.xs.length x3.Ac.cap) x3.Ac.xs
abbrev qar1_4:=BB z 50 1 (fun x:Sl A7=>[Sl.val x]) (.slice x3.Ar.a x3.Ar.xs.length x3.Ar.cap) x3.Ar.xs
abbrev qar1_5:=BB z 49 3 AQ.cells (.slice x3.Aj.a x3.Aj.xs.length x3.Aj.cap) x3.Aj.xs
abbrev qar1_6:=Ed z 64 4 AX.cells (x3.Ac.xs.map Ap.Ah)
abbrev qar1_7:=Ed z 67 2 BR.cells (x3.Ac.xs.map Ap.Aq)
abbrev Zbc:Dv:=(27,.agg #[i6 ((Ce x3).Ag.First),i6 ((Ce x3).Ag.Second)])
abbrev Qr:=(3,pt (z+1))
abbrev OB:=(4,pt (z+2))
abbrev Tf:=[(Ak w),(qar1_2 z x3),(qar1_1 z x3),(qar1_0 z x3),(qar1_4 z x3),(Ed z 52 3 A7.cells x3.Ar.xs),(qar1_3 z x3),(qar1_6 z x3),(qar1_7 z x3),(qar1_5 z x3)]
end
theorem admit_bad(w:World)(hL:Gf w)(b:Sl Int)(hb:FV Ew 1 Any w b)(hB:Gj b.xs)(p:IW)(hD:IV b.xs = .ok p)(hok:Ns p)(hzc:∀ d,GK d=p→(Ce d).e≠0):Calls Tryz.prog 7 #[.slice b.a b.xs.length b.cap] w fun e w'=>∃ d,GK d=p∧e = .returned (.tuple #[.agg (Ai.arr Qw),.int .i64 (Ce d).e,.agg #[.int .i64 (Ce d).Ag.First,.int .i64 (Ce d).Ag.Second]])∧BH (fun _=>False) w w':=by
 obtain⟨z,hz⟩:∃ z,z=w.heap.size:=⟨_,rfl⟩
 refine Ur (args:=[.slice b.a b.xs.length b.cap]) 28 ⟨w,z,[(Ak w)]⟩ Tryz.func7 rfl (by kernel_rfl) (by kernel_rfl) (En hz) ?_
 refine Cc [0] [(0,.slice b.a b.xs.length b.cap)] ?_
 refine q_c 6 1 [] [[o0,o0,o0],[o0]] [] [(0,.slice b.a b.xs.length b.cap),(2,pt z),(Qr z),(OB z),(7,.func (.func 17) #[] #[pt (z+1),pt z])] ⟨w,z+3,[(Ak w),(bk z #[i6 0,i6 0,i6 0,i6 0,.slice none 0 0,.slice none 0 0,.slice none 0 0] 27),(bk (z+1) #[i6 0] 28),(bk (z+2) #[i6 0,i6 0] 30)]⟩ rfl Ae ?_
 refine l_defer ({ target:= .fn (.func 17) #[pt (z+1),pt z],args:= #[] }) ?_
 refine Bv 4 1 [] [[],[o0]] [] [(2,pt z),(Qr z),(OB z),(9,.slice b.a b.xs.length b.cap)] rfl Ae ?_
 refine l_call [] [] 18 #[.slice b.a b.xs.length b.cap] (some 10) Ae ?_
 intro w1 hw1
 refine(decode_ok w1 b (Jy (hw1.ext rfl) (fun _ h=>h) hb) hB p hD).mono ?_
 rintro e w2 ⟨x3,hplx3,rfl,hMw2,hkw2⟩
 obtain⟨hnw2,hSw2⟩:=Zbj hw1 hkw2 hMw2 z (show z≤z+3 by omega);have hnw2':z+3≤w2.heap.size:=hnw2
 refine⟨_,_,rfl,hSw2, ?_⟩
 have hokx3:Ns (GK x3):=hplx3 ▸ hok
 have hzx3:=hzc x3 hplx3
 refine EG 12 1 [0] [[o0,o0,o0,o0,(an 7 1),o0,o0],[o0,o0],[(an 7 1)]] [Qb z,Qb z,Qb z,Qb z,Qb z,Qb z,Qb z,Qb z,Qb z,Qb z,Qb z,Qb z,Qb z,Qb z] [(2,pt z),(Qr z),(OB z),(21,.agg (Ai.arr x3))] ⟨w,w2.heap.size,[(Ak w),(qar1_2 z x3),(bk (z+1) #[i6 0] 28),(bk (z+2) #[i6 0,i6 0] 30),(qar1_4 z x3),(Ed z 52 3 A7.cells x3.Ar.xs),(qar1_3 z x3),(qar1_6 z x3),(qar1_7 z x3),(qar1_5 z x3)]⟩ rfl ⟨rfl,rfl,rfl,rfl,rfl,rfl,rfl,rfl,rfl,rfl,rfl,rfl,rfl,rfl,Ae⟩ ?_
 refine l_call [] [] 14 #[.agg (Ai.arr x3)] (some 22) Ae ?_
 intro w4 hw4
 refine(NK w4 (hL.ext (hw4.ext rfl)) x3 (conf_sat (c:=x3) (z:=z) hw4 [4,5,6,7,8,9] hokx3) (ZaV hokx3)).mono ?_
 rintro e w5 ⟨rfl,hkw5⟩
 have hnw5:w2.heap.size≤w5.heap.size:=AY hw4 hkw5
 refine⟨_,_,rfl,hw4.keeps hkw5, ?_⟩
 refine EG 3 0 [] [[o0,o0,o0,(a1 2),(an 2 3)]] [Qb (z+1),Qb (z+2),Qb (z+2)] [(2,pt z),(Qr z),(OB z)] ⟨w,w5.heap.size,(Tf z x3 w)⟩ rfl ⟨rfl,rfl,rfl,Ae⟩ ?_
 refine DK 5 [0,1,2,3,4,5,6,7,8,9] (Tf z x3 w) rfl rfl ?_
 refine CP [(0,(an 7 1)),(1,(a1 2)),(2,(an 2 3))] [2,3,4,25,26,27] [Qb z,Qb z,Qb z,Qb z,Qb z,Qb z,Qb z,Qb (z+1),Qb (z+2),Qb (z+2)] [true,true,true,false,false,false] [(2,pt z),(Qr z),(OB z),(25,.agg (Ai.arr x3)),(26,i6 ((Ce x3).e)),(Zbc x3)] ⟨rfl,rfl,rfl,rfl,rfl,rfl,rfl,rfl,rfl,rfl,Ae⟩ ?_
 refine AV 3 ?_
 refine Bi (an 7 1) [2,3,4,26,27] [Qb z,Qb z,Qb z,Qb z,Qb z,Qb z,Qb z] [(2,pt z),(Qr z),(OB z),(26,i6 ((Ce x3).e)),(Zbc x3)] ⟨w,w5.heap.size,(Tf z x3 w)⟩ [0,1,2,3,4,5,6,7,8,9] ⟨rfl,rfl,rfl,rfl,rfl,rfl,rfl,Ae⟩ (.inr rfl) ?_
 refine AV 4 ?_
 refine Bi (a1 2) [2,3,4,27] [Qb (z+1)] [(2,pt z),(Qr z),(OB z),(Zbc x3)] ⟨w,w5.heap.size,(Tf z x3 w)⟩ [0,1,2,3,4,5,6,7,8,9] ⟨rfl,Ae⟩ (.inr rfl) ?_
 refine AV 5 ?_
 refine Bi (an 2 3) [2,3,4] [Qb (z+2),Qb (z+2)] [(2,pt z),(Qr z),(OB z)] ⟨w,w5.heap.size,(Tf z x3 w)⟩ [] ⟨rfl,rfl,Ae⟩ (.inl rfl) ?_
 refine D9 6 [0,1,2,3,4,5,6,7,8,9] (Tf z x3 w) rfl rfl ?_
 refine CQ ?_
 refine Cb [2,3,4] [(2,pt z),(Qr z),(OB z)] ?_
 refine FX <| Jh <| Vg (f:=17) (args:= #[pt (z+1),pt z]) (fun _=>by simp[go_sem]) (fun w6 hw6 => ?_)
 refine(adm1_B w6 (z+1) z _ hzx3 _ (hw6.at (i:=2) rfl) (hw6.at (i:=1) rfl) (by omega)).mono ?_
 rintro e u w7 ⟨rfl,hu,hp1,hq1,hkw7⟩
 have hnw7:w5.heap.size≤w7.heap.size:=AY hw6 hkw7
 refine⟨_,rfl,hu,_,SatpqG hw6 [0,3,4,5,6,7,8,9] (i:=2) (j:=1) rfl rfl (by decide) rfl rfl rfl rfl hp1 hq1 hkw7, ?_⟩
 refine AP [.at 9,.at 9,.at 9,.at 9,.at 9,.at 9,.at 9,.at 8,.at 1,.at 1] [Qb z,Qb z,Qb z,Qb z,Qb z,Qb z,Qb z,Qb (z+1),Qb (z+2),Qb (z+2)] (.tuple #[.agg #[i6 0,i6 0,i6 0,i6 0,.slice none 0 0,.slice none 0 0,.slice none 0 0],i6 ((Ce x3).e),.agg #[i6 ((Ce x3).Ag.First),i6 ((Ce x3).Ag.Second)]]) ⟨rfl,rfl,rfl,rfl,rfl,rfl,rfl,rfl,rfl,rfl,Ae⟩ ?_
 intro w8 hw8
 exact⟨x3,hplx3,rfl,Au hw8⟩
section
variable (z:Nat)(w:World)(q:Nat)(er:Int)
abbrev Xd:=bk (z+2) #[i6 0,i6 0] 30
abbrev VV:=bk z (Ai.arr Qw) 27
abbrev Rz:=(3,pt (z+1))
abbrev RH:=(4,pt (z+2))
abbrev qvi0_4:=[(Ak w),(VV z),(bk (z+1) #[i6 424] 28),(bk (z+2) #[(Aa q),i6 er] 30)]
end
theorem admit_dec(w:World)(hL:Gf w)(b:Sl Int)(hb:FV Ew 1 Any w b)(hB:Gj b.xs)(er:Int)(q:Nat)(hD:IV b.xs = .bad er q)(her:er≠0):Calls Tryz.prog 7 #[.slice b.a b.xs.length b.cap] w fun e w'=>e = .returned (.tuple #[.agg (Ai.arr Qw),.int .i64 424,.agg #[.int .i64 (q:Int),.int .i64 er]])∧BH (fun _=>False) w w':=by
 obtain⟨z,hz⟩:∃ z,z=w.heap.size:=⟨_,rfl⟩
 refine Ur (args:=[.slice b.a b.xs.length b.cap]) 28 ⟨w,z,[(Ak w)]⟩ Tryz.func7 rfl (by kernel_rfl) (by kernel_rfl) (En hz) ?_
 refine Cc [0] [(0,.slice b.a b.xs.length b.cap)] ?_
 refine q_c 6 1 [] [[o0,o0,o0],[o0]] [] [(0,.slice b.a b.xs.length b.cap),(2,pt z),(Rz z),(RH z),(7,.func (.func 17) #[] #[pt (z+1),pt z])] ⟨w,z+3,[(Ak w),(bk z #[i6 0,i6 0,i6 0,i6 0,.slice none 0 0,.slice none 0 0,.slice none 0 0] 27),(bk (z+1) #[i6 0] 28),(Xd z)]⟩ rfl Ae ?_
 refine l_defer ({ target:= .fn (.func 17) #[pt (z+1),pt z],args:= #[] }) ?_
 refine Bv 4 1 [] [[],[o0]] [] [(2,pt z),(Rz z),(RH z),(9,.slice b.a b.xs.length b.cap)] rfl Ae ?_
 refine l_call [] [] 18 #[.slice b.a b.xs.length b.cap] (some 10) Ae ?_
 intro w1 hw1
 refine(decode_bad w1 b (Jy (hw1.ext rfl) (fun _ h=>h) hb) hB er q hD).mono ?_
 rintro e w2 ⟨rfl,hkw2⟩
 have hnw2:z+3≤w2.heap.size:=AY hw1 hkw2
 refine⟨_,_,rfl,hw1.keeps hkw2, ?_⟩
 refine EG 9 0 [1] [[o0,o0,o0,o0,(an 7 1),o0,o0],[o0,oT]] [Qb z,Qb z,Qb z,Qb z,Qb z,Qb z,Qb z,NT er 0] [(2,pt z),(Rz z),(RH z),(5,Aa q),(6,i6 er),(15,.bool true)] ⟨w,w2.heap.size,[(Ak w),(VV z),(bk (z+1) #[i6 0] 28),(Xd z)]⟩ rfl ⟨rfl,rfl,rfl,rfl,rfl,rfl,rfl,nt,Ae⟩ ?_
 refine DK 6 [0,1,3] [(Ak w),(VV z),(Xd z)] rfl rfl ?_
 refine JP [.tk 0 (an 7 1),.tk 1 o0,.tk 2 o0,.cl 3 (.agg #[(Aa q),i6 er])] [2,3,4,16,19] [(19,#[(Aa q),i6 er],.agg #[(Aa q),i6 er])] (Dy 4 3) [Qb z,Qb z,Qb z,Qb z,Qb z,Qb z,Qb z] [(2,pt z),(Rz z),(RH z),(16,.agg (Ai.arr Qw)),(19,.agg #[(Aa q),i6 er])] [0,1,3] ⟨rfl,rfl,rfl,rfl,rfl,rfl,rfl,Ae⟩ ⟨fun w3 hw3=>Fv w3 (q:Int) er,Ae⟩ (fun n4 hn5 => ?_)
 replace hn5:w2.heap.size≤n4:=hn5
 refine AV 4 ?_
 refine Bi (an 7 1) [2,3,4,19] [Qb z,Qb z,Qb z,Qb z,Qb z,Qb z,Qb z] [(2,pt z),(Rz z),(RH z),(19,.agg #[(Aa q),i6 er])] ⟨w,n4,[(Ak w),(VV z),(bk (z+1) #[i6 0] 28),(Xd z)]⟩ [0,1,3] ⟨rfl,rfl,rfl,rfl,rfl,rfl,rfl,Ae⟩ (.inr rfl) ?_
 refine AV 5 ?_
 refine Bi (a1 2) [2,3,4,19] [Qb (z+1)] [(2,pt z),(Rz z),(RH z),(19,.agg #[(Aa q),i6 er])] ⟨w,n4,[(Ak w),(VV z),(bk (z+1) #[i6 424] 28),(Xd z)]⟩ [0,1,3] ⟨rfl,Ae⟩ (.inr rfl) ?_
 refine AV 6 ?_
 refine Bi (an 2 3) [2,3,4] [Qb (z+2),Qb (z+2)] [(2,pt z),(Rz z),(RH z)] ⟨w,n4,(qvi0_4 z w q er)⟩ [] ⟨rfl,rfl,Ae⟩ (.inl rfl) ?_
 refine D9 7 [0,1,2,3] (qvi0_4 z w q er) rfl rfl ?_
 refine CQ ?_
 refine Cb [2,3,4] [(2,pt z),(Rz z),(RH z)] ?_
 refine FX <| Jh <| Vg (f:=17) (args:= #[pt (z+1),pt z]) (fun _=>by simp[go_sem]) (fun w6 hw6 => ?_)
 refine(adm1_B w6 (z+1) z _ (by decide) _ (hw6.at (i:=2) rfl) (hw6.at (i:=1) rfl) (by omega)).mono ?_
 rintro e u w7 ⟨rfl,hu,hp1,hq1,hkw7⟩
 have hnw7:n4≤w7.heap.size:=AY hw6 hkw7
 refine⟨_,rfl,hu,_,SatpqG hw6 [0,3] (i:=2) (j:=1) rfl rfl (by decide) rfl rfl rfl rfl hp1 hq1 hkw7, ?_⟩
 refine AP [.at 3,.at 3,.at 3,.at 3,.at 3,.at 3,.at 3,.at 2,.at 1,.at 1] [Qb z,Qb z,Qb z,Qb z,Qb z,Qb z,Qb z,Qb (z+1),Qb (z+2),Qb (z+2)] (.tuple #[.agg #[i6 0,i6 0,i6 0,i6 0,.slice none 0 0,.slice none 0 0,.slice none 0 0],i6 424,.agg #[(Aa q),i6 er]]) ⟨rfl,rfl,rfl,rfl,rfl,rfl,rfl,rfl,rfl,rfl,Ae⟩ ?_
 intro w8 hw8
 exact⟨rfl,Au hw8⟩
theorem XP(w:World)(hL:Gf w)(a:Option Addr)(cap:Nat)(E:List Int)(hb:FV Ew 1 Any w ⟨a,cap,E⟩)(hB:Gj E)(c:Ai)(hD:IV E = .ok (GK c))(hok:Ns (GK c))(hz:(Ce c).e=0):Calls Tryz.prog 7 #[.slice a E.length cap] w fun e w'=>∃ d,strip d=strip c∧e = .returned (.tuple #[.agg (Ai.arr d),.int .i64 (Ce c).e,.agg #[.int .i64 (Ce c).Ag.First,.int .i64 (Ce c).Ag.Second]])∧Ai.ok (New w.heap.size) w' d∧BH (fun _=>False) w w':=by
 have hs:∀ d,GK d=GK c→Ce d=Ce c:=fun d h=>OI (WP h)
 refine(admit_good w hL ⟨a,cap,E⟩ hb hB (GK c) hD hok (fun d h=>by rw[hs d h];exact hz)).mono ?_
 rintro e w' ⟨d,h1,h2,h3,h4⟩
 rw[hs d h1]at h2
 obtain⟨w0,hS⟩:=h3
 have ho:Ai.ok Any w' d:=conf_ok (z:=w.heap.size) (fun f hf=>hS.all _ (List.mem_map_of_mem (f:=(· w.heap.size)) hf)) (h1 ▸ hok)
 exact⟨d,WP h1,h2,O5 ho rfl ⟨w0,hS⟩,h4⟩
theorem YK(w:World)(hL:Gf w)(a:Option Addr)(cap:Nat)(E:List Int)(hb:FV Ew 1 Any w ⟨a,cap,E⟩)(hB:Gj E)(c:Ai)(hD:IV E = .ok (GK c))(hok:Ns (GK c))(hz:(Ce c).e≠0):Calls Tryz.prog 7 #[.slice a E.length cap] w fun e w'=>e = .returned (.tuple #[.agg (Ai.arr Qw),.int .i64 (Ce c).e,.agg #[.int .i64 (Ce c).Ag.First,.int .i64 (Ce c).Ag.Second]])∧BH (fun _=>False) w w':=by
 have hs:∀ d,GK d=GK c→Ce d=Ce c:=fun d h=>OI (WP h)
 refine(admit_bad w hL ⟨a,cap,E⟩ hb hB (GK c) hD hok (fun d h=>by rw[hs d h];exact hz)).mono ?_
 rintro e w' ⟨d,h1,h2,h4⟩
 rw[hs d h1]at h2
 exact⟨h2,h4⟩
theorem Zc(w:World)(hL:Gf w)(a:Option Addr)(cap n:Nat)(X:List Int)(hn:X.length=n)(hb:FV Ew 1 Any w ⟨a,cap,X⟩)(hB:Gj X)(er:Int)(q:Nat)(hD:IV X = .bad er q)(her:er≠0):Calls Tryz.prog 7 #[.slice a n cap] w fun e w'=>e = .returned (.tuple #[.agg (Ai.arr Qw),.int .i64 424,.agg #[.int .i64 (q:Int),.int .i64 er]])∧BH (fun _=>False) w w':=by
 subst hn
 exact admit_dec w hL ⟨a,cap,X⟩ hb hB er q hD her
theorem XL{c d:Ai}(h:VU c)(hs:strip d=strip c):d.Ac.xs.length+d.Aj.xs.length+d.Ar.xs.length≤15000000000000:=by
 obtain⟨q1,q2,q3, -, -⟩:=ZaN hs
 rw[q1,q2,q3];exact h.sum
theorem bytes_B(w:World)(hL:Gf w)(c:Ai)(hc:Ai.ok Any w c)(hLim:VU c)(at_:Int)(hat:He .i64 at_)(tn:Int)(htn:0≤tn∧tn<256)(hk1:Ie c=true)(hk2:16384<(JG c).length):Calls Tryz.prog 4 #[.agg (Ai.arr c),.int .i64 at_,.int .u8 tn] w fun e w'=>e = .returned (.bool true)∧BH (fun _=>False) w w':=by
 obtain⟨z,hz⟩:∃ z,z=w.heap.size:=⟨_,rfl⟩
 refine BA (args:=[.agg (Ai.arr c),i6 at_,.int .u8 tn]) 83 ⟨w,z,[(Ak w)]⟩ Tryz.func4 rfl (by kernel_rfl) (by kernel_rfl) (En hz) ?_
 refine Cc [0,1,2] [(0,.agg (Ai.arr c)),(1,i6 at_),(2,.int .u8 tn)] ?_
 refine q_c 6 1 [] [[o0,o0],[(an 7 1)]] [Qb z,Qb z,Qb z,Qb z,Qb z,Qb z,Qb z] [(1,i6 at_),(2,.int .u8 tn),(3,pt z),(18,.agg (Ai.arr c))] ⟨w,z+1,[(Ak w),(bk z (Ai.arr c) 27)]⟩ rfl ⟨rfl,rfl,rfl,rfl,rfl,rfl,rfl,Ae⟩ ?_
 refine l_call [] [] 13 #[.agg (Ai.arr c)] (some 19) Ae ?_
 intro w1 hw1
 refine(Jd w1 c (hc.ext (hw1.ext rfl) (fun _ h=>h)) hLim).mono ?_
 rintro e w2 ⟨dw2,rfl,hsw2,hOw2,hkw2⟩
 have how2:=O5 hc hsw2 hOw2;rw[hw1.size]at how2
 have hnw2:z+1≤w2.heap.size:=AY hw1 hkw2
 refine⟨_,_,rfl,hw1.KZ hkw2, ?_⟩
 refine CZ [1,2,3,19] [(1,i6 at_),(2,.int .u8 tn),(3,pt z),(19,.agg (Ai.arr dw2))] ?_
 refine l_call [] [] 12 #[.agg (Ai.arr dw2)] (some 20) Ae ?_
 intro w3 hw3
 have hes:=QM hc (how2.ext (hw3.NZ 2) (fun _ _=>trivial)) hsw2;have hok1:Ie dw2=true:=by rw[hes.1];exact hk1
 refine(encode_B w3 dw2 (how2.ext (hw3.NZ 2) (fun _ _=>trivial)) hok1 (by rw[hes.2 hk1];exact hk2)).mono ?_
 rintro e w4 ⟨rfl,hkw4⟩
 have hnw4:w2.heap.size≤w4.heap.size:=AY hw3 hkw4
 refine⟨_,_,rfl,hw3.keeps hkw4, ?_⟩
 refine Bv 13 0 [1] [[o0,o0,o0,o0,o0],[o0,o0],[o0]] [] [(6,.bool true)] rfl Ae ?_
 refine AP [] [] (.bool true) Ae ?_
 intro w5 hw5
 exact⟨rfl,Au hw5⟩
theorem bytes_C(w:World)(hL:Gf w)(c:Ai)(hc:Ai.ok Any w c)(hLim:VU c)(at_:Int)(hat:He .i64 at_)(tn:Int)(htn:0≤tn∧tn<256)(hk1:Ie c=false):Calls Tryz.prog 4 #[.agg (Ai.arr c),.int .i64 at_,.int .u8 tn] w fun e w'=>e = .returned (.bool true)∧BH (fun _=>False) w w':=by
 obtain⟨z,hz⟩:∃ z,z=w.heap.size:=⟨_,rfl⟩
 refine BA (args:=[.agg (Ai.arr c),i6 at_,.int .u8 tn]) 83 ⟨w,z,[(Ak w)]⟩ Tryz.func4 rfl (by kernel_rfl) (by kernel_rfl) (En hz) ?_
 refine Cc [0,1,2] [(0,.agg (Ai.arr c)),(1,i6 at_),(2,.int .u8 tn)] ?_
 refine q_c 6 1 [] [[o0,o0],[(an 7 1)]] [Qb z,Qb z,Qb z,Qb z,Qb z,Qb z,Qb z] [(1,i6 at_),(2,.int .u8 tn),(3,pt z),(18,.agg (Ai.arr c))] ⟨w,z+1,[(Ak w),(bk z (Ai.arr c) 27)]⟩ rfl ⟨rfl,rfl,rfl,rfl,rfl,rfl,rfl,Ae⟩ ?_
 refine l_call [] [] 13 #[.agg (Ai.arr c)] (some 19) Ae ?_
 intro w1 hw1
 refine(Jd w1 c (hc.ext (hw1.ext rfl) (fun _ h=>h)) hLim).mono ?_
 rintro e w2 ⟨dw2,rfl,hsw2,hOw2,hkw2⟩
 have how2:=O5 hc hsw2 hOw2;rw[hw1.size]at how2
 have hnw2:z+1≤w2.heap.size:=AY hw1 hkw2
 refine⟨_,_,rfl,hw1.KZ hkw2, ?_⟩
 refine CZ [1,2,3,19] [(1,i6 at_),(2,.int .u8 tn),(3,pt z),(19,.agg (Ai.arr dw2))] ?_
 refine l_call [] [] 12 #[.agg (Ai.arr dw2)] (some 20) Ae ?_
 intro w3 hw3
 have hes:=QM hc (how2.ext (hw3.NZ 2) (fun _ _=>trivial)) hsw2;have hok1:Ie dw2=false:=by rw[hes.1];exact hk1
 refine(encode_C w3 dw2 (how2.ext (hw3.NZ 2) (fun _ _=>trivial)) hok1).mono ?_
 rintro e w4 ⟨rfl,hkw4⟩
 have hnw4:w2.heap.size≤w4.heap.size:=AY hw3 hkw4
 refine⟨_,_,rfl,hw3.keeps hkw4, ?_⟩
 refine Bv 13 0 [1] [[o0,o0,o0,o0,o0],[o0,o0],[o0]] [] [(6,.bool true)] rfl Ae ?_
 refine AP [] [] (.bool true) Ae ?_
 intro w5 hw5
 exact⟨rfl,Au hw5⟩
section
variable (w11:World)(c:Ai)
abbrev qfrl_0:Ch:= .blk w11.heap.size (.cells #[i6 ((Ce c).Ag.First),i6 ((Ce c).Ag.Second)] 30 (0,0)) true
end
theorem bytes_og(w:World)(hL:Gf w)(c:Ai)(hc:Ai.ok Any w c)(hLim:VU c)(at_:Int)(hat:He .i64 at_)(tn:Int)(htn:0≤tn∧tn<256)(E:List Int)(hE:JG c=E)(hBE:Gj E)(hk1:Ie c=true)(hk2:E.length≤16384)(hEq:E=Lp (GK c))(hpos:0<E.length)(hD:IV E = .ok (GK c))(hok:Ns (GK c))(hzc:(Ce c).e=0)(hout:at_<0∨(E.length:Int)≤at_∨tn=0):Calls Tryz.prog 4 #[.agg (Ai.arr c),.int .i64 at_,.int .u8 tn] w fun e w'=>e = .returned (.bool true)∧BH (fun _=>False) w w':=by
 obtain⟨z,hz⟩:∃ z,z=w.heap.size:=⟨_,rfl⟩
 refine BA (args:=[.agg (Ai.arr c),i6 at_,.int .u8 tn]) 83 ⟨w,z,[(Ak w)]⟩ Tryz.func4 rfl (by kernel_rfl) (by kernel_rfl) (En hz) ?_
 refine Cc [0,1,2] [(0,.agg (Ai.arr c)),(1,i6 at_),(2,.int .u8 tn)] ?_
 refine q_c 6 1 [] [[o0,o0],[(an 7 1)]] [Qb z,Qb z,Qb z,Qb z,Qb z,Qb z,Qb z] [(1,i6 at_),(2,.int .u8 tn),(3,pt z),(18,.agg (Ai.arr c))] ⟨w,z+1,[(Ak w),(bk z (Ai.arr c) 27)]⟩ rfl ⟨rfl,rfl,rfl,rfl,rfl,rfl,rfl,Ae⟩ ?_
 refine l_call [] [] 13 #[.agg (Ai.arr c)] (some 19) Ae ?_
 intro w1 hw1
 refine(Jd w1 c (hc.ext (hw1.ext rfl) (fun _ h=>h)) hLim).mono ?_
 rintro e w2 ⟨dw2,rfl,hsw2,hOw2,hkw2⟩
 have how2:=O5 hc hsw2 hOw2;rw[hw1.size]at how2
 have hnw2:z+1≤w2.heap.size:=AY hw1 hkw2
 refine⟨_,_,rfl,hw1.KZ hkw2, ?_⟩
 refine CZ [1,2,3,19] [(1,i6 at_),(2,.int .u8 tn),(3,pt z),(19,.agg (Ai.arr dw2))] ?_
 refine l_call [] [] 12 #[.agg (Ai.arr dw2)] (some 20) Ae ?_
 intro w3 hw3
 have hes:=QM hc (how2.ext (hw3.NZ 2) (fun _ _=>trivial)) hsw2;have hok1:Ie dw2=true:=by rw[hes.1];exact hk1
 refine(Uw w3 dw2 (how2.ext (hw3.NZ 2) (fun _ _=>trivial)) E (by rw[hes.2 hk1];exact hE) hok1 hk2).mono ?_
 rintro e w4 ⟨ax5,cp6,rfl,how4,hkw4⟩
 have hnw4:w2.heap.size≤w4.heap.size:=AY hw3 hkw4
 rw[hw3.size]at how4
 have hcpw4:E.length≤cp6:=(O8 (cells:=Ew) (F:=fun _=>True) (fun _=>rfl) how4 (by omega) (fun _ _=>trivial)).le
 refine⟨_,_,rfl,hw3.Qy hkw4 (BB w2.heap.size 5 1 Ew (.slice ax5 E.length cp6) E) how4 (Gx _ _ _ _ _ _) (fun b hb=>how4.lt b hb), ?_⟩
 refine Bv 12 1 [0] [[o0,o0,o0,o0,o0],[o0,o0],[(an 7 1)]] [Qb z,Qb z,Qb z,Qb z,Qb z,Qb z,Qb z] [(1,i6 at_),(2,.int .u8 tn),(3,pt z),(7,.slice ax5 E.length cp6),(26,.agg (Ai.arr c))] rfl ⟨rfl,rfl,rfl,rfl,rfl,rfl,rfl,Ae⟩ ?_
 refine l_call [] [] 13 #[.agg (Ai.arr c)] (some 27) Ae ?_
 intro w7 hw7
 refine(Jd w7 c (hc.ext (hw7.ext rfl) (fun _ h=>h)) hLim).mono ?_
 rintro e w8 ⟨dw8,rfl,hsw8,hOw8,hkw8⟩
 have how8:=O5 hc hsw8 hOw8;rw[hw7.size]at how8
 have hnw8:w4.heap.size≤w8.heap.size:=AY hw7 hkw8
 refine⟨_,_,rfl,hw7.KZ hkw8, ?_⟩
 refine CZ [1,2,3,7,27] [(1,i6 at_),(2,.int .u8 tn),(3,pt z),(7,.slice ax5 E.length cp6),(27,.agg (Ai.arr dw8))] ?_
 refine l_call [] [] 14 #[.agg (Ai.arr dw8)] (some 28) Ae ?_
 intro w9 hw9
 have hck10:=NK w9 (hL.ext (hw9.ext rfl)) dw8 (how8.ext (hw9.NZ 4) (fun _ _=>trivial)) (XL hLim hsw8);rw[OI hsw8]at hck10
 refine hck10.mono ?_
 rintro e w11 ⟨rfl,hkw11⟩
 have hnw11:w8.heap.size≤w11.heap.size:=AY hw9 hkw11
 refine⟨_,_,rfl,hw9.keeps hkw11, ?_⟩
 refine EG 4 1 [] [[o0,o0,o0,o0,o0,(an 2 5)],[o0]] [Qb w11.heap.size,Qb w11.heap.size] [(1,i6 at_),(2,.int .u8 tn),(3,pt z),(7,.slice ax5 E.length cp6),(10,pt w11.heap.size),(9,i6 ((Ce c).e)),(32,.slice ax5 E.length cp6)] ⟨w,w11.heap.size+1,[(Ak w),(bk z (Ai.arr c) 27),(mid (z+1) w2),(BB w2.heap.size 5 1 Ew (.slice ax5 E.length cp6) E),(mid w4.heap.size w8),(qfrl_0 w11 c)]⟩ rfl ⟨rfl,rfl,Ae⟩ ?_
 refine l_call [] [] 7 #[.slice ax5 E.length cp6] (some 33) Ae ?_
 intro w12 hw12
 refine(XP w12 (hL.ext (hw12.ext rfl)) ax5 cp6 E (Ui hw12 (i:=3) rfl (by omega)) hBE c hD hok hzc).mono ?_
 rintro e w13 ⟨dw13,hsw13,rfl,how13,hkw13⟩
 rw[hw12.size]at how13
 have hnw13:w11.heap.size+1≤w13.heap.size:=AY hw12 hkw13
 refine⟨_,_,rfl,hw12.KZ hkw13, ?_⟩
 refine EG 13 5 [0] [[o0,o0,o0,o0,o0,o0,(an 7 7),o0,(an 2 8)],[o0,o0,oF,o0,(an 2 8),(an 2 5),⟨.seq true,none⟩,o0],[o0,oT,o0,(an 7 7),(an 7 1)]] [Qb w13.heap.size,Qb w13.heap.size,Qb w13.heap.size,Qb w13.heap.size,Qb w13.heap.size,Qb w13.heap.size,Qb w13.heap.size,Qb (w13.heap.size+1),Qb (w13.heap.size+1),NF ((Ce c).e) ((Ce c).e),Qb (w13.heap.size+1),Qb (w13.heap.size+1),Qb w11.heap.size,Qb w11.heap.size,(((Ce c).Ag.First:Int)==((Ce c).Ag.First:Int)&&(((Ce c).Ag.Second:Int)==((Ce c).Ag.Second:Int)&&true))=true,ET ((Ce c).e) 0,Qb w13.heap.size,Qb w13.heap.size,Qb w13.heap.size,Qb w13.heap.size,Qb w13.heap.size,Qb w13.heap.size,Qb w13.heap.size,Qb z,Qb z,Qb z,Qb z,Qb z,Qb z,Qb z] [(1,i6 at_),(2,.int .u8 tn),(7,.slice ax5 E.length cp6),(47,.bool true),(48,.agg (Ai.arr dw13)),(49,.agg (Ai.arr c))] ⟨w,w13.heap.size+2,[(Ak w),(bk z (Ai.arr c) 27),(mid (z+1) w2),(BB w2.heap.size 5 1 Ew (.slice ax5 E.length cp6) E),(mid w4.heap.size w8),(qfrl_0 w11 c),(mid (w11.heap.size+1) w13),(.blk w13.heap.size (.cells (Ai.arr dw13) 27 (0,0)) true),(bk (w13.heap.size+1) #[i6 ((Ce c).Ag.First),i6 ((Ce c).Ag.Second)] 30)]⟩ rfl ⟨rfl,rfl,rfl,rfl,rfl,rfl,rfl,rfl,rfl,nf,rfl,rfl,rfl,rfl,(by simp),et,rfl,rfl,rfl,rfl,rfl,rfl,rfl,rfl,rfl,rfl,rfl,rfl,rfl,rfl,Ae⟩ ?_
 refine l_call [] [] 8 #[.agg (Ai.arr dw13),.agg (Ai.arr c)] (some 50) Ae ?_
 intro w14 hw14
 refine(same_yes w14 dw13 c (how13.ext (hw14.NZ 6) (fun _ _=>trivial)) (hc.ext (hw14.ext rfl) (fun _ h=>h)) hsw13).mono ?_
 rintro e w15 ⟨rfl,hkw15⟩
 have hnw15:w13.heap.size+2≤w15.heap.size:=AY hw14 hkw15
 refine⟨_,_,rfl,hw14.keeps hkw15, ?_⟩
 refine Bv 7 0 [0] [[o0,o0]] [] [(1,i6 at_),(2,.int .u8 tn),(7,.slice ax5 E.length cp6),(52,.bool false)] rfl Ae ?_
 by_cases h16:(at_:Int)<0
 ·refine A8 9 0 [1] [[o0,oT,o0,o0,o0,o0],[o0,o0,oT,o0]] [BT ((at_:Int)<0),BT ((E.length:Int) > 0)] [(6,.bool true)] rfl ⟨bt,bt,Ae⟩ ?_
  refine AP [] [] (.bool true) Ae ?_
  intro w17 hw17
  exact⟨rfl,Au hw17⟩
 by_cases h18:(at_:Int)<(E.length:Int)
 ·by_cases h19:(tn:Int)=0
  ·refine A8 9 0 [1] [[o0,oF,o0,o0,o0,o0,oF,o0,o0,o0,oT,o0],[o0,o0,oT,o0]] [BF ((at_:Int)<0),BF ((at_:Int)≥(E.length:Int)),ET tn 0,BT ((E.length:Int) > 0)] [(6,.bool true)] rfl ⟨bf,bf,et,bt,Ae⟩ ?_
   refine AP [] [] (.bool true) Ae ?_
   intro w20 hw20
   exact⟨rfl,Au hw20⟩
  refine A8 7 0 [0] [[o0,oF,o0,o0,o0,o0,oF,o0,o0,o0,oF,o0]] [BF ((at_:Int)<0),BF ((at_:Int)≥(E.length:Int)),EF tn 0] [(1,i6 at_),(2,.int .u8 tn),(7,.slice ax5 E.length cp6),(64,.bool false)] rfl ⟨bf,bf,ef,Ae⟩ ?_
  exfalso;omega
 refine A8 9 0 [1] [[o0,oF,o0,o0,o0,o0,oT,o0,o0,o0],[o0,o0,oT,o0]] [BF ((at_:Int)<0),BT ((at_:Int)≥(E.length:Int)),BT ((E.length:Int) > 0)] [(6,.bool true)] rfl ⟨bf,bt,bt,Ae⟩ ?_
 refine AP [] [] (.bool true) Ae ?_
 intro w21 hw21
 exact⟨rfl,Au hw21⟩
section
variable (w13:World)(c:Ai)(w11:World)
abbrev qzpz_0:=bk (w13.heap.size+1) #[i6 ((Ce c).Ag.First),i6 ((Ce c).Ag.Second)] 30
abbrev qzpz_1:Ch:= .blk w11.heap.size (.cells #[i6 ((Ce c).Ag.First),i6 ((Ce c).Ag.Second)] 30 (0,0)) true
end
theorem bytes_ig(w:World)(hL:Gf w)(c:Ai)(hc:Ai.ok Any w c)(hLim:VU c)(m:Nat)(tn:Int)(htn:0≤tn∧tn<256)(E:List Int)(hE:JG c=E)(hBE:Gj E)(hk1:Ie c=true)(hk2:E.length≤16384)(hEq:E=Lp (GK c))(hpos:0<E.length)(hD:IV E = .ok (GK c))(hok:Ns (GK c))(hzc:(Ce c).e=0)(hm:m<E.length)(hne:¬ tn=0):Calls Tryz.prog 4 #[.agg (Ai.arr c),.int .i64 (m:Int),.int .u8 tn] w fun e w'=>e = .returned (.bool true)∧BH (fun _=>False) w w':=by
 obtain⟨z,hz⟩:∃ z,z=w.heap.size:=⟨_,rfl⟩
 refine BA (args:=[.agg (Ai.arr c),Aa m,.int .u8 tn]) 83 ⟨w,z,[(Ak w)]⟩ Tryz.func4 rfl (by kernel_rfl) (by kernel_rfl) (En hz) ?_
 refine Cc [0,1,2] [(0,.agg (Ai.arr c)),(1,Aa m),(2,.int .u8 tn)] ?_
 refine q_c 6 1 [] [[o0,o0],[(an 7 1)]] [Qb z,Qb z,Qb z,Qb z,Qb z,Qb z,Qb z] [(1,Aa m),(2,.int .u8 tn),(3,pt z),(18,.agg (Ai.arr c))] ⟨w,z+1,[(Ak w),(bk z (Ai.arr c) 27)]⟩ rfl ⟨rfl,rfl,rfl,rfl,rfl,rfl,rfl,Ae⟩ ?_
 refine l_call [] [] 13 #[.agg (Ai.arr c)] (some 19) Ae ?_
 intro w1 hw1
 refine(Jd w1 c (hc.ext (hw1.ext rfl) (fun _ h=>h)) hLim).mono ?_
 rintro e w2 ⟨dw2,rfl,hsw2,hOw2,hkw2⟩
 have how2:=O5 hc hsw2 hOw2;rw[hw1.size]at how2
 have hnw2:z+1≤w2.heap.size:=AY hw1 hkw2
 refine⟨_,_,rfl,hw1.KZ hkw2, ?_⟩
 refine CZ [1,2,3,19] [(1,Aa m),(2,.int .u8 tn),(3,pt z),(19,.agg (Ai.arr dw2))] ?_
 refine l_call [] [] 12 #[.agg (Ai.arr dw2)] (some 20) Ae ?_
 intro w3 hw3
 have hes:=QM hc (how2.ext (hw3.NZ 2) (fun _ _=>trivial)) hsw2;have hok1:Ie dw2=true:=by rw[hes.1];exact hk1
 refine(Uw w3 dw2 (how2.ext (hw3.NZ 2) (fun _ _=>trivial)) E (by rw[hes.2 hk1];exact hE) hok1 hk2).mono ?_
 rintro e w4 ⟨ax5,cp6,rfl,how4,hkw4⟩
 have hnw4:w2.heap.size≤w4.heap.size:=AY hw3 hkw4
 rw[hw3.size]at how4
 have hcpw4:E.length≤cp6:=(O8 (cells:=Ew) (F:=fun _=>True) (fun _=>rfl) how4 (by omega) (fun _ _=>trivial)).le
 refine⟨_,_,rfl,hw3.Qy hkw4 (BB w2.heap.size 5 1 Ew (.slice ax5 E.length cp6) E) how4 (Gx _ _ _ _ _ _) (fun b hb=>how4.lt b hb), ?_⟩
 refine Bv 12 1 [0] [[o0,o0,o0,o0,o0],[o0,o0],[(an 7 1)]] [Qb z,Qb z,Qb z,Qb z,Qb z,Qb z,Qb z] [(1,Aa m),(2,.int .u8 tn),(3,pt z),(7,.slice ax5 E.length cp6),(26,.agg (Ai.arr c))] rfl ⟨rfl,rfl,rfl,rfl,rfl,rfl,rfl,Ae⟩ ?_
 refine l_call [] [] 13 #[.agg (Ai.arr c)] (some 27) Ae ?_
 intro w7 hw7
 refine(Jd w7 c (hc.ext (hw7.ext rfl) (fun _ h=>h)) hLim).mono ?_
 rintro e w8 ⟨dw8,rfl,hsw8,hOw8,hkw8⟩
 have how8:=O5 hc hsw8 hOw8;rw[hw7.size]at how8
 have hnw8:w4.heap.size≤w8.heap.size:=AY hw7 hkw8
 refine⟨_,_,rfl,hw7.KZ hkw8, ?_⟩
 refine CZ [1,2,3,7,27] [(1,Aa m),(2,.int .u8 tn),(3,pt z),(7,.slice ax5 E.length cp6),(27,.agg (Ai.arr dw8))] ?_
 refine l_call [] [] 14 #[.agg (Ai.arr dw8)] (some 28) Ae ?_
 intro w9 hw9
 have hck10:=NK w9 (hL.ext (hw9.ext rfl)) dw8 (how8.ext (hw9.NZ 4) (fun _ _=>trivial)) (XL hLim hsw8);rw[OI hsw8]at hck10
 refine hck10.mono ?_
 rintro e w11 ⟨rfl,hkw11⟩
 have hnw11:w8.heap.size≤w11.heap.size:=AY hw9 hkw11
 refine⟨_,_,rfl,hw9.keeps hkw11, ?_⟩
 refine EG 4 1 [] [[o0,o0,o0,o0,o0,(an 2 5)],[o0]] [Qb w11.heap.size,Qb w11.heap.size] [(1,Aa m),(2,.int .u8 tn),(3,pt z),(7,.slice ax5 E.length cp6),(10,pt w11.heap.size),(9,i6 ((Ce c).e)),(32,.slice ax5 E.length cp6)] ⟨w,w11.heap.size+1,[(Ak w),(bk z (Ai.arr c) 27),(mid (z+1) w2),(BB w2.heap.size 5 1 Ew (.slice ax5 E.length cp6) E),(mid w4.heap.size w8),(qzpz_1 c w11)]⟩ rfl ⟨rfl,rfl,Ae⟩ ?_
 refine l_call [] [] 7 #[.slice ax5 E.length cp6] (some 33) Ae ?_
 intro w12 hw12
 refine(XP w12 (hL.ext (hw12.ext rfl)) ax5 cp6 E (Ui hw12 (i:=3) rfl (by omega)) hBE c hD hok hzc).mono ?_
 rintro e w13 ⟨dw13,hsw13,rfl,how13,hkw13⟩
 rw[hw12.size]at how13
 have hnw13:w11.heap.size+1≤w13.heap.size:=AY hw12 hkw13
 refine⟨_,_,rfl,hw12.KZ hkw13, ?_⟩
 refine EG 13 5 [0] [[o0,o0,o0,o0,o0,o0,(an 7 7),o0,(an 2 8)],[o0,o0,oF,o0,(an 2 8),(an 2 5),⟨.seq true,none⟩,o0],[o0,oT,o0,(an 7 7),(an 7 1)]] [Qb w13.heap.size,Qb w13.heap.size,Qb w13.heap.size,Qb w13.heap.size,Qb w13.heap.size,Qb w13.heap.size,Qb w13.heap.size,Qb (w13.heap.size+1),Qb (w13.heap.size+1),NF ((Ce c).e) ((Ce c).e),Qb (w13.heap.size+1),Qb (w13.heap.size+1),Qb w11.heap.size,Qb w11.heap.size,(((Ce c).Ag.First:Int)==((Ce c).Ag.First:Int)&&(((Ce c).Ag.Second:Int)==((Ce c).Ag.Second:Int)&&true))=true,ET ((Ce c).e) 0,Qb w13.heap.size,Qb w13.heap.size,Qb w13.heap.size,Qb w13.heap.size,Qb w13.heap.size,Qb w13.heap.size,Qb w13.heap.size,Qb z,Qb z,Qb z,Qb z,Qb z,Qb z,Qb z] [(1,Aa m),(2,.int .u8 tn),(7,.slice ax5 E.length cp6),(47,.bool true),(48,.agg (Ai.arr dw13)),(49,.agg (Ai.arr c))] ⟨w,w13.heap.size+2,[(Ak w),(bk z (Ai.arr c) 27),(mid (z+1) w2),(BB w2.heap.size 5 1 Ew (.slice ax5 E.length cp6) E),(mid w4.heap.size w8),(qzpz_1 c w11),(mid (w11.heap.size+1) w13),(.blk w13.heap.size (.cells (Ai.arr dw13) 27 (0,0)) true),(qzpz_0 w13 c)]⟩ rfl ⟨rfl,rfl,rfl,rfl,rfl,rfl,rfl,rfl,rfl,nf,rfl,rfl,rfl,rfl,(by simp),et,rfl,rfl,rfl,rfl,rfl,rfl,rfl,rfl,rfl,rfl,rfl,rfl,rfl,rfl,Ae⟩ ?_
 refine l_call [] [] 8 #[.agg (Ai.arr dw13),.agg (Ai.arr c)] (some 50) Ae ?_
 intro w14 hw14
 refine(same_yes w14 dw13 c (how13.ext (hw14.NZ 6) (fun _ _=>trivial)) (hc.ext (hw14.ext rfl) (fun _ h=>h)) hsw13).mono ?_
 rintro e w15 ⟨rfl,hkw15⟩
 have hnw15:w13.heap.size+2≤w15.heap.size:=AY hw14 hkw15
 refine⟨_,_,rfl,hw14.keeps hkw15, ?_⟩
 refine Bv 7 0 [0] [[o0,o0]] [] [(1,Aa m),(2,.int .u8 tn),(7,.slice ax5 E.length cp6),(52,.bool false)] rfl Ae ?_
 by_cases h16:(m:Int)<0
 ·refine A8 9 0 [1] [[o0,oT,o0,o0,o0,o0],[o0,o0,oT,o0]] [BT ((m:Int)<0),BT ((E.length:Int) > 0)] [(6,.bool true)] rfl ⟨bt,bt,Ae⟩ ?_
  refine AP [] [] (.bool true) Ae ?_
  intro w17 hw17
  exact⟨rfl,Au hw17⟩
 by_cases h18:(m:Int)<(E.length:Int)
 ·refine A8 7 0 [0] [[o0,oF,o0,o0,o0,o0,oF,o0,o0,o0,oF,o0]] [BF ((m:Int)<0),BF ((m:Int)≥(E.length:Int)),EF tn 0] [(1,Aa m),(2,.int .u8 tn),(7,.slice ax5 E.length cp6),(64,.bool false)] rfl ⟨bf,bf,ef,Ae⟩ ?_
  refine Ky (base:=w2.heap.size) (e:=5) (sz:=1) (cells:=Ew) (a:=ax5) (n:=E.length) (cap:=cp6) (xs:=E) 3 (by omega) (fun b19 hg20 hb21 => ?_)
  subst hg20
  refine A8 1 7 [] [[o0,o0,(oi m),(oa [.via 3 (.int .u8 (gd E m))]),o0,o0,(oi m)]] [Ea m,m<E.length,Ec,∀ w',Ch.holds (BB w2.heap.size 5 1 Ew (.slice (some ⟨b19,0,none⟩) E.length cp6) E) w'→w'.cell? ⟨b19,0+m,none⟩=some (.int .u8 (gd E m)),Ea m,m<E.length,Ec] [(7,.slice (some ⟨b19,0,none⟩) E.length cp6),(73,.int .u8 (RZ (gd E m) tn)),(74,.pointer (some ⟨b19,0+m,none⟩))] rfl ⟨rfl,(by omega),rfl,Jm (sz:=1) (j:=m) (k:=0) (fun _=>rfl) (by first | omega | (rw[List.length_set];omega)) rfl,rfl,(by omega),rfl,Ae⟩ ?_
  refine Yc 3 m 0 E (RZ (gd E m) tn) Ew w2.heap.size 5 1 b19 E.length cp6 (.int .u8 (RZ (gd E m) tn)) none (by first | omega | (rw[List.length_set];omega)) rfl ?_
  refine Bv 4 1 [] [[],[o0]] [] [(76,.slice (some ⟨b19,0,none⟩) E.length cp6)] rfl Ae ?_
  refine l_call [] [] 7 #[.slice (some ⟨b19,0,none⟩) E.length cp6] (some 77) Ae ?_
  intro w22 hw22
  obtain⟨er23,q24,hD2,her,hpl⟩:=YA (bs:=E) (c:=GK c) (i:=m) (t:=tn) hBE hEq hk2 hm htn hne
  refine(Zc w22 (hL.ext (hw22.ext rfl)) (some ⟨b19,0,none⟩) cp6 E.length (E.set m (RZ (gd E m) tn)) (by rw[List.length_set]) (Zap hw22 (i:=3) (by rw[List.length_set]) rfl (by rw[List.length_set];omega)) (ZP hBE (bx8_in (J7 hBE _) htn).1) er23 q24 hD2 (by omega)).mono ?_
  rintro e w25 ⟨rfl,hkw25⟩
  have hnw25:w15.heap.size≤w25.heap.size:=AY hw22 hkw25
  refine⟨_,_,rfl,hw22.keeps hkw25, ?_⟩
  refine EG 7 0 [] [[o0,o0,o0,o0,o0,o0,(an 7 9),o0,(an 2 10)],[o0,o0,o0]] [Qb w25.heap.size,Qb w25.heap.size,Qb w25.heap.size,Qb w25.heap.size,Qb w25.heap.size,Qb w25.heap.size,Qb w25.heap.size,Qb (w25.heap.size+1),Qb (w25.heap.size+1)] [(6,.bool true)] ⟨w,w25.heap.size+2,[(Ak w),(bk z (Ai.arr c) 27),(mid (z+1) w2),(BB w2.heap.size 5 1 Ew (.slice (some ⟨b19,0,none⟩) E.length cp6) (E.set m (RZ (gd E m) tn))),(mid w4.heap.size w8),(qzpz_1 c w11),(mid (w11.heap.size+1) w13),(.blk w13.heap.size (.cells (Ai.arr dw13) 27 (0,0)) true),(qzpz_0 w13 c),(.blk w25.heap.size (.cells (Ai.arr Qw) 27 (0,0)) true),(bk (w25.heap.size+1) #[(Aa q24),i6 er23] 30)]⟩ rfl ⟨rfl,rfl,rfl,rfl,rfl,rfl,rfl,rfl,rfl,Ae⟩ ?_
  refine AP [] [] (.bool true) Ae ?_
  intro w26 hw26
  exact⟨rfl,Au hw26⟩
 refine A8 9 0 [1] [[o0,oF,o0,o0,o0,o0,oT,o0,o0,o0],[o0,o0,oT,o0]] [BF ((m:Int)<0),BT ((m:Int)≥(E.length:Int)),BT ((E.length:Int) > 0)] [(6,.bool true)] rfl ⟨bf,bt,bt,Ae⟩ ?_
 refine AP [] [] (.bool true) Ae ?_
 intro w27 hw27
 exact⟨rfl,Au hw27⟩
section
variable (w11:World)(c:Ai)
abbrev q9zy_0:Ch:= .blk w11.heap.size (.cells #[i6 ((Ce c).Ag.First),i6 ((Ce c).Ag.Second)] 30 (0,0)) true
end
theorem bytes_ob(w:World)(hL:Gf w)(c:Ai)(hc:Ai.ok Any w c)(hLim:VU c)(at_:Int)(hat:He .i64 at_)(tn:Int)(htn:0≤tn∧tn<256)(E:List Int)(hE:JG c=E)(hBE:Gj E)(hk1:Ie c=true)(hk2:E.length≤16384)(hEq:E=Lp (GK c))(hpos:0<E.length)(hD:IV E = .ok (GK c))(hok:Ns (GK c))(hzc:(Ce c).e≠0)(hout:at_<0∨(E.length:Int)≤at_∨tn=0):Calls Tryz.prog 4 #[.agg (Ai.arr c),.int .i64 at_,.int .u8 tn] w fun e w'=>e = .returned (.bool true)∧BH (fun _=>False) w w':=by
 obtain⟨z,hz⟩:∃ z,z=w.heap.size:=⟨_,rfl⟩
 refine BA (args:=[.agg (Ai.arr c),i6 at_,.int .u8 tn]) 83 ⟨w,z,[(Ak w)]⟩ Tryz.func4 rfl (by kernel_rfl) (by kernel_rfl) (En hz) ?_
 refine Cc [0,1,2] [(0,.agg (Ai.arr c)),(1,i6 at_),(2,.int .u8 tn)] ?_
 refine q_c 6 1 [] [[o0,o0],[(an 7 1)]] [Qb z,Qb z,Qb z,Qb z,Qb z,Qb z,Qb z] [(1,i6 at_),(2,.int .u8 tn),(3,pt z),(18,.agg (Ai.arr c))] ⟨w,z+1,[(Ak w),(bk z (Ai.arr c) 27)]⟩ rfl ⟨rfl,rfl,rfl,rfl,rfl,rfl,rfl,Ae⟩ ?_
 refine l_call [] [] 13 #[.agg (Ai.arr c)] (some 19) Ae ?_
 intro w1 hw1
 refine(Jd w1 c (hc.ext (hw1.ext rfl) (fun _ h=>h)) hLim).mono ?_
 rintro e w2 ⟨dw2,rfl,hsw2,hOw2,hkw2⟩
 have how2:=O5 hc hsw2 hOw2;rw[hw1.size]at how2
 have hnw2:z+1≤w2.heap.size:=AY hw1 hkw2
 refine⟨_,_,rfl,hw1.KZ hkw2, ?_⟩
 refine CZ [1,2,3,19] [(1,i6 at_),(2,.int .u8 tn),(3,pt z),(19,.agg (Ai.arr dw2))] ?_
 refine l_call [] [] 12 #[.agg (Ai.arr dw2)] (some 20) Ae ?_
 intro w3 hw3
 have hes:=QM hc (how2.ext (hw3.NZ 2) (fun _ _=>trivial)) hsw2;have hok1:Ie dw2=true:=by rw[hes.1];exact hk1
 refine(Uw w3 dw2 (how2.ext (hw3.NZ 2) (fun _ _=>trivial)) E (by rw[hes.2 hk1];exact hE) hok1 hk2).mono ?_
 rintro e w4 ⟨ax5,cp6,rfl,how4,hkw4⟩
 have hnw4:w2.heap.size≤w4.heap.size:=AY hw3 hkw4
 rw[hw3.size]at how4
 have hcpw4:E.length≤cp6:=(O8 (cells:=Ew) (F:=fun _=>True) (fun _=>rfl) how4 (by omega) (fun _ _=>trivial)).le
 refine⟨_,_,rfl,hw3.Qy hkw4 (BB w2.heap.size 5 1 Ew (.slice ax5 E.length cp6) E) how4 (Gx _ _ _ _ _ _) (fun b hb=>how4.lt b hb), ?_⟩
 refine Bv 12 1 [0] [[o0,o0,o0,o0,o0],[o0,o0],[(an 7 1)]] [Qb z,Qb z,Qb z,Qb z,Qb z,Qb z,Qb z] [(1,i6 at_),(2,.int .u8 tn),(3,pt z),(7,.slice ax5 E.length cp6),(26,.agg (Ai.arr c))] rfl ⟨rfl,rfl,rfl,rfl,rfl,rfl,rfl,Ae⟩ ?_
 refine l_call [] [] 13 #[.agg (Ai.arr c)] (some 27) Ae ?_
 intro w7 hw7
 refine(Jd w7 c (hc.ext (hw7.ext rfl) (fun _ h=>h)) hLim).mono ?_
 rintro e w8 ⟨dw8,rfl,hsw8,hOw8,hkw8⟩
 have how8:=O5 hc hsw8 hOw8;rw[hw7.size]at how8
 have hnw8:w4.heap.size≤w8.heap.size:=AY hw7 hkw8
 refine⟨_,_,rfl,hw7.KZ hkw8, ?_⟩
 refine CZ [1,2,3,7,27] [(1,i6 at_),(2,.int .u8 tn),(3,pt z),(7,.slice ax5 E.length cp6),(27,.agg (Ai.arr dw8))] ?_
 refine l_call [] [] 14 #[.agg (Ai.arr dw8)] (some 28) Ae ?_
 intro w9 hw9
 have hck10:=NK w9 (hL.ext (hw9.ext rfl)) dw8 (how8.ext (hw9.NZ 4) (fun _ _=>trivial)) (XL hLim hsw8);rw[OI hsw8]at hck10
 refine hck10.mono ?_
 rintro e w11 ⟨rfl,hkw11⟩
 have hnw11:w8.heap.size≤w11.heap.size:=AY hw9 hkw11
 refine⟨_,_,rfl,hw9.keeps hkw11, ?_⟩
 refine EG 4 1 [] [[o0,o0,o0,o0,o0,(an 2 5)],[o0]] [Qb w11.heap.size,Qb w11.heap.size] [(1,i6 at_),(2,.int .u8 tn),(3,pt z),(7,.slice ax5 E.length cp6),(10,pt w11.heap.size),(9,i6 ((Ce c).e)),(32,.slice ax5 E.length cp6)] ⟨w,w11.heap.size+1,[(Ak w),(bk z (Ai.arr c) 27),(mid (z+1) w2),(BB w2.heap.size 5 1 Ew (.slice ax5 E.length cp6) E),(mid w4.heap.size w8),(q9zy_0 w11 c)]⟩ rfl ⟨rfl,rfl,Ae⟩ ?_
 refine l_call [] [] 7 #[.slice ax5 E.length cp6] (some 33) Ae ?_
 intro w12 hw12
 refine(YK w12 (hL.ext (hw12.ext rfl)) ax5 cp6 E (Ui hw12 (i:=3) rfl (by omega)) hBE c hD hok hzc).mono ?_
 rintro e w13 ⟨rfl,hkw13⟩
 have hnw13:w11.heap.size+1≤w13.heap.size:=AY hw12 hkw13
 refine⟨_,_,rfl,hw12.keeps hkw13, ?_⟩
 refine EG 20 0 [0,0] [[o0,o0,o0,o0,o0,o0,(an 7 6),o0,(an 2 7)],[o0,o0,oF,o0,(an 2 7),(an 2 5),⟨.seq true,none⟩,o0],[o0,oF,o0,o0]] [Qb w13.heap.size,Qb w13.heap.size,Qb w13.heap.size,Qb w13.heap.size,Qb w13.heap.size,Qb w13.heap.size,Qb w13.heap.size,Qb (w13.heap.size+1),Qb (w13.heap.size+1),NF ((Ce c).e) ((Ce c).e),Qb (w13.heap.size+1),Qb (w13.heap.size+1),Qb w11.heap.size,Qb w11.heap.size,(((Ce c).Ag.First:Int)==((Ce c).Ag.First:Int)&&(((Ce c).Ag.Second:Int)==((Ce c).Ag.Second:Int)&&true))=true,EF ((Ce c).e) 0] [(1,i6 at_),(2,.int .u8 tn),(7,.slice ax5 E.length cp6),(52,.bool false)] ⟨w,w13.heap.size+2,[(Ak w),(bk z (Ai.arr c) 27),(mid (z+1) w2),(BB w2.heap.size 5 1 Ew (.slice ax5 E.length cp6) E),(mid w4.heap.size w8),(q9zy_0 w11 c),(.blk w13.heap.size (.cells (Ai.arr Qw) 27 (0,0)) true),(bk (w13.heap.size+1) #[i6 ((Ce c).Ag.First),i6 ((Ce c).Ag.Second)] 30)]⟩ rfl ⟨rfl,rfl,rfl,rfl,rfl,rfl,rfl,rfl,rfl,nf,rfl,rfl,rfl,rfl,(by simp),ef,Ae⟩ ?_
 by_cases h14:(at_:Int)<0
 ·refine A8 9 0 [1] [[o0,oT,o0,o0,o0,o0],[o0,o0,oT,o0]] [BT ((at_:Int)<0),BT ((E.length:Int) > 0)] [(6,.bool true)] rfl ⟨bt,bt,Ae⟩ ?_
  refine AP [] [] (.bool true) Ae ?_
  intro w15 hw15
  exact⟨rfl,Au hw15⟩
 by_cases h16:(at_:Int)<(E.length:Int)
 ·by_cases h17:(tn:Int)=0
  ·refine A8 9 0 [1] [[o0,oF,o0,o0,o0,o0,oF,o0,o0,o0,oT,o0],[o0,o0,oT,o0]] [BF ((at_:Int)<0),BF ((at_:Int)≥(E.length:Int)),ET tn 0,BT ((E.length:Int) > 0)] [(6,.bool true)] rfl ⟨bf,bf,et,bt,Ae⟩ ?_
   refine AP [] [] (.bool true) Ae ?_
   intro w18 hw18
   exact⟨rfl,Au hw18⟩
  refine A8 7 0 [0] [[o0,oF,o0,o0,o0,o0,oF,o0,o0,o0,oF,o0]] [BF ((at_:Int)<0),BF ((at_:Int)≥(E.length:Int)),EF tn 0] [(1,i6 at_),(2,.int .u8 tn),(7,.slice ax5 E.length cp6),(64,.bool false)] rfl ⟨bf,bf,ef,Ae⟩ ?_
  exfalso;omega
 refine A8 9 0 [1] [[o0,oF,o0,o0,o0,o0,oT,o0,o0,o0],[o0,o0,oT,o0]] [BF ((at_:Int)<0),BT ((at_:Int)≥(E.length:Int)),BT ((E.length:Int) > 0)] [(6,.bool true)] rfl ⟨bf,bt,bt,Ae⟩ ?_
 refine AP [] [] (.bool true) Ae ?_
 intro w19 hw19
 exact⟨rfl,Au hw19⟩
section
variable (w13:World)(c:Ai)(w11:World)
abbrev qrmg_0:=bk (w13.heap.size+1) #[i6 ((Ce c).Ag.First),i6 ((Ce c).Ag.Second)] 30
abbrev ZaZ:Ch:= .blk w11.heap.size (.cells #[i6 ((Ce c).Ag.First),i6 ((Ce c).Ag.Second)] 30 (0,0)) true
end
theorem bytes_ib(w:World)(hL:Gf w)(c:Ai)(hc:Ai.ok Any w c)(hLim:VU c)(m:Nat)(tn:Int)(htn:0≤tn∧tn<256)(E:List Int)(hE:JG c=E)(hBE:Gj E)(hk1:Ie c=true)(hk2:E.length≤16384)(hEq:E=Lp (GK c))(hpos:0<E.length)(hD:IV E = .ok (GK c))(hok:Ns (GK c))(hzc:(Ce c).e≠0)(hm:m<E.length)(hne:¬ tn=0):Calls Tryz.prog 4 #[.agg (Ai.arr c),.int .i64 (m:Int),.int .u8 tn] w fun e w'=>e = .returned (.bool true)∧BH (fun _=>False) w w':=by
 obtain⟨z,hz⟩:∃ z,z=w.heap.size:=⟨_,rfl⟩
 refine BA (args:=[.agg (Ai.arr c),Aa m,.int .u8 tn]) 83 ⟨w,z,[(Ak w)]⟩ Tryz.func4 rfl (by kernel_rfl) (by kernel_rfl) (En hz) ?_
 refine Cc [0,1,2] [(0,.agg (Ai.arr c)),(1,Aa m),(2,.int .u8 tn)] ?_
 refine q_c 6 1 [] [[o0,o0],[(an 7 1)]] [Qb z,Qb z,Qb z,Qb z,Qb z,Qb z,Qb z] [(1,Aa m),(2,.int .u8 tn),(3,pt z),(18,.agg (Ai.arr c))] ⟨w,z+1,[(Ak w),(bk z (Ai.arr c) 27)]⟩ rfl ⟨rfl,rfl,rfl,rfl,rfl,rfl,rfl,Ae⟩ ?_
 refine l_call [] [] 13 #[.agg (Ai.arr c)] (some 19) Ae ?_
 intro w1 hw1
 refine(Jd w1 c (hc.ext (hw1.ext rfl) (fun _ h=>h)) hLim).mono ?_
 rintro e w2 ⟨dw2,rfl,hsw2,hOw2,hkw2⟩
 have how2:=O5 hc hsw2 hOw2;rw[hw1.size]at how2
 have hnw2:z+1≤w2.heap.size:=AY hw1 hkw2
 refine⟨_,_,rfl,hw1.KZ hkw2, ?_⟩
 refine CZ [1,2,3,19] [(1,Aa m),(2,.int .u8 tn),(3,pt z),(19,.agg (Ai.arr dw2))] ?_
 refine l_call [] [] 12 #[.agg (Ai.arr dw2)] (some 20) Ae ?_
 intro w3 hw3
 have hes:=QM hc (how2.ext (hw3.NZ 2) (fun _ _=>trivial)) hsw2;have hok1:Ie dw2=true:=by rw[hes.1];exact hk1
 refine(Uw w3 dw2 (how2.ext (hw3.NZ 2) (fun _ _=>trivial)) E (by rw[hes.2 hk1];exact hE) hok1 hk2).mono ?_
 rintro e w4 ⟨ax5,cp6,rfl,how4,hkw4⟩
 have hnw4:w2.heap.size≤w4.heap.size:=AY hw3 hkw4
 rw[hw3.size]at how4
 have hcpw4:E.length≤cp6:=(O8 (cells:=Ew) (F:=fun _=>True) (fun _=>rfl) how4 (by omega) (fun _ _=>trivial)).le
 refine⟨_,_,rfl,hw3.Qy hkw4 (BB w2.heap.size 5 1 Ew (.slice ax5 E.length cp6) E) how4 (Gx _ _ _ _ _ _) (fun b hb=>how4.lt b hb), ?_⟩
 refine Bv 12 1 [0] [[o0,o0,o0,o0,o0],[o0,o0],[(an 7 1)]] [Qb z,Qb z,Qb z,Qb z,Qb z,Qb z,Qb z] [(1,Aa m),(2,.int .u8 tn),(3,pt z),(7,.slice ax5 E.length cp6),(26,.agg (Ai.arr c))] rfl ⟨rfl,rfl,rfl,rfl,rfl,rfl,rfl,Ae⟩ ?_
 refine l_call [] [] 13 #[.agg (Ai.arr c)] (some 27) Ae ?_
 intro w7 hw7
 refine(Jd w7 c (hc.ext (hw7.ext rfl) (fun _ h=>h)) hLim).mono ?_
 rintro e w8 ⟨dw8,rfl,hsw8,hOw8,hkw8⟩
 have how8:=O5 hc hsw8 hOw8;rw[hw7.size]at how8
 have hnw8:w4.heap.size≤w8.heap.size:=AY hw7 hkw8
 refine⟨_,_,rfl,hw7.KZ hkw8, ?_⟩
 refine CZ [1,2,3,7,27] [(1,Aa m),(2,.int .u8 tn),(3,pt z),(7,.slice ax5 E.length cp6),(27,.agg (Ai.arr dw8))] ?_
 refine l_call [] [] 14 #[.agg (Ai.arr dw8)] (some 28) Ae ?_
 intro w9 hw9
 have hck10:=NK w9 (hL.ext (hw9.ext rfl)) dw8 (how8.ext (hw9.NZ 4) (fun _ _=>trivial)) (XL hLim hsw8);rw[OI hsw8]at hck10
 refine hck10.mono ?_
 rintro e w11 ⟨rfl,hkw11⟩
 have hnw11:w8.heap.size≤w11.heap.size:=AY hw9 hkw11
 refine⟨_,_,rfl,hw9.keeps hkw11, ?_⟩
 refine EG 4 1 [] [[o0,o0,o0,o0,o0,(an 2 5)],[o0]] [Qb w11.heap.size,Qb w11.heap.size] [(1,Aa m),(2,.int .u8 tn),(3,pt z),(7,.slice ax5 E.length cp6),(10,pt w11.heap.size),(9,i6 ((Ce c).e)),(32,.slice ax5 E.length cp6)] ⟨w,w11.heap.size+1,[(Ak w),(bk z (Ai.arr c) 27),(mid (z+1) w2),(BB w2.heap.size 5 1 Ew (.slice ax5 E.length cp6) E),(mid w4.heap.size w8),(ZaZ c w11)]⟩ rfl ⟨rfl,rfl,Ae⟩ ?_
 refine l_call [] [] 7 #[.slice ax5 E.length cp6] (some 33) Ae ?_
 intro w12 hw12
 refine(YK w12 (hL.ext (hw12.ext rfl)) ax5 cp6 E (Ui hw12 (i:=3) rfl (by omega)) hBE c hD hok hzc).mono ?_
 rintro e w13 ⟨rfl,hkw13⟩
 have hnw13:w11.heap.size+1≤w13.heap.size:=AY hw12 hkw13
 refine⟨_,_,rfl,hw12.keeps hkw13, ?_⟩
 refine EG 20 0 [0,0] [[o0,o0,o0,o0,o0,o0,(an 7 6),o0,(an 2 7)],[o0,o0,oF,o0,(an 2 7),(an 2 5),⟨.seq true,none⟩,o0],[o0,oF,o0,o0]] [Qb w13.heap.size,Qb w13.heap.size,Qb w13.heap.size,Qb w13.heap.size,Qb w13.heap.size,Qb w13.heap.size,Qb w13.heap.size,Qb (w13.heap.size+1),Qb (w13.heap.size+1),NF ((Ce c).e) ((Ce c).e),Qb (w13.heap.size+1),Qb (w13.heap.size+1),Qb w11.heap.size,Qb w11.heap.size,(((Ce c).Ag.First:Int)==((Ce c).Ag.First:Int)&&(((Ce c).Ag.Second:Int)==((Ce c).Ag.Second:Int)&&true))=true,EF ((Ce c).e) 0] [(1,Aa m),(2,.int .u8 tn),(7,.slice ax5 E.length cp6),(52,.bool false)] ⟨w,w13.heap.size+2,[(Ak w),(bk z (Ai.arr c) 27),(mid (z+1) w2),(BB w2.heap.size 5 1 Ew (.slice ax5 E.length cp6) E),(mid w4.heap.size w8),(ZaZ c w11),(.blk w13.heap.size (.cells (Ai.arr Qw) 27 (0,0)) true),(qrmg_0 w13 c)]⟩ rfl ⟨rfl,rfl,rfl,rfl,rfl,rfl,rfl,rfl,rfl,nf,rfl,rfl,rfl,rfl,(by simp),ef,Ae⟩ ?_
 by_cases h14:(m:Int)<0
 ·refine A8 9 0 [1] [[o0,oT,o0,o0,o0,o0],[o0,o0,oT,o0]] [BT ((m:Int)<0),BT ((E.length:Int) > 0)] [(6,.bool true)] rfl ⟨bt,bt,Ae⟩ ?_
  refine AP [] [] (.bool true) Ae ?_
  intro w15 hw15
  exact⟨rfl,Au hw15⟩
 by_cases h16:(m:Int)<(E.length:Int)
 ·refine A8 7 0 [0] [[o0,oF,o0,o0,o0,o0,oF,o0,o0,o0,oF,o0]] [BF ((m:Int)<0),BF ((m:Int)≥(E.length:Int)),EF tn 0] [(1,Aa m),(2,.int .u8 tn),(7,.slice ax5 E.length cp6),(64,.bool false)] rfl ⟨bf,bf,ef,Ae⟩ ?_
  refine Ky (base:=w2.heap.size) (e:=5) (sz:=1) (cells:=Ew) (a:=ax5) (n:=E.length) (cap:=cp6) (xs:=E) 3 (by omega) (fun b17 hg18 hb19 => ?_)
  subst hg18
  refine A8 1 7 [] [[o0,o0,(oi m),(oa [.via 3 (.int .u8 (gd E m))]),o0,o0,(oi m)]] [Ea m,m<E.length,Ec,∀ w',Ch.holds (BB w2.heap.size 5 1 Ew (.slice (some ⟨b17,0,none⟩) E.length cp6) E) w'→w'.cell? ⟨b17,0+m,none⟩=some (.int .u8 (gd E m)),Ea m,m<E.length,Ec] [(7,.slice (some ⟨b17,0,none⟩) E.length cp6),(73,.int .u8 (RZ (gd E m) tn)),(74,.pointer (some ⟨b17,0+m,none⟩))] rfl ⟨rfl,(by omega),rfl,Jm (sz:=1) (j:=m) (k:=0) (fun _=>rfl) (by first | omega | (rw[List.length_set];omega)) rfl,rfl,(by omega),rfl,Ae⟩ ?_
  refine Yc 3 m 0 E (RZ (gd E m) tn) Ew w2.heap.size 5 1 b17 E.length cp6 (.int .u8 (RZ (gd E m) tn)) none (by first | omega | (rw[List.length_set];omega)) rfl ?_
  refine Bv 4 1 [] [[],[o0]] [] [(76,.slice (some ⟨b17,0,none⟩) E.length cp6)] rfl Ae ?_
  refine l_call [] [] 7 #[.slice (some ⟨b17,0,none⟩) E.length cp6] (some 77) Ae ?_
  intro w20 hw20
  obtain⟨er21,q22,hD2,her,hpl⟩:=YA (bs:=E) (c:=GK c) (i:=m) (t:=tn) hBE hEq hk2 hm htn hne
  refine(Zc w20 (hL.ext (hw20.ext rfl)) (some ⟨b17,0,none⟩) cp6 E.length (E.set m (RZ (gd E m) tn)) (by rw[List.length_set]) (Zap hw20 (i:=3) (by rw[List.length_set]) rfl (by rw[List.length_set];omega)) (ZP hBE (bx8_in (J7 hBE _) htn).1) er21 q22 hD2 (by omega)).mono ?_
  rintro e w23 ⟨rfl,hkw23⟩
  have hnw23:w13.heap.size+2≤w23.heap.size:=AY hw20 hkw23
  refine⟨_,_,rfl,hw20.keeps hkw23, ?_⟩
  refine EG 7 0 [] [[o0,o0,o0,o0,o0,o0,(an 7 8),o0,(an 2 9)],[o0,o0,o0]] [Qb w23.heap.size,Qb w23.heap.size,Qb w23.heap.size,Qb w23.heap.size,Qb w23.heap.size,Qb w23.heap.size,Qb w23.heap.size,Qb (w23.heap.size+1),Qb (w23.heap.size+1)] [(6,.bool true)] ⟨w,w23.heap.size+2,[(Ak w),(bk z (Ai.arr c) 27),(mid (z+1) w2),(BB w2.heap.size 5 1 Ew (.slice (some ⟨b17,0,none⟩) E.length cp6) (E.set m (RZ (gd E m) tn))),(mid w4.heap.size w8),(ZaZ c w11),(.blk w13.heap.size (.cells (Ai.arr Qw) 27 (0,0)) true),(qrmg_0 w13 c),(.blk w23.heap.size (.cells (Ai.arr Qw) 27 (0,0)) true),(bk (w23.heap.size+1) #[(Aa q22),i6 er21] 30)]⟩ rfl ⟨rfl,rfl,rfl,rfl,rfl,rfl,rfl,rfl,rfl,Ae⟩ ?_
  refine AP [] [] (.bool true) Ae ?_
  intro w24 hw24
  exact⟨rfl,Au hw24⟩
 refine A8 9 0 [1] [[o0,oF,o0,o0,o0,o0,oT,o0,o0,o0],[o0,o0,oT,o0]] [BF ((m:Int)<0),BT ((m:Int)≥(E.length:Int)),BT ((E.length:Int) > 0)] [(6,.bool true)] rfl ⟨bf,bt,bt,Ae⟩ ?_
 refine AP [] [] (.bool true) Ae ?_
 intro w25 hw25
 exact⟨rfl,Au hw25⟩
theorem bytes_calls(w:World)(hL:Gf w)(c:Ai)(hc:Ai.ok Any w c)(hLim:VU c)(at_:Int)(hat:He .i64 at_)(tn:Int)(htn:0≤tn∧tn<256):Calls Tryz.prog 4 #[.agg (Ai.arr c),.int .i64 at_,.int .u8 tn] w fun e w'=>e = .returned (.bool true)∧BH (fun _=>False) w w':=by
 by_cases h1:Ie c=true
 ·by_cases h2:(JG c).length≤16384
  ·have hI:=Q5 hc
   have hok:=(Yg hI).1 h1
   have hE:=Z5 hI hok
   have hD:=(dec_iff (Ue h1)).2 ⟨h2,hok,hE⟩
   have hp:0<(JG c).length:=by rw[hE,RU];omega
   by_cases hout:at_<0∨((JG c).length:Int)≤at_∨tn=0
   ·by_cases hz:(Ce c).e=0
    ·exact bytes_og w hL c hc hLim at_ hat tn htn _ rfl (Ue h1) h1 h2 hE hp hD hok hz hout
    exact bytes_ob w hL c hc hLim at_ hat tn htn _ rfl (Ue h1) h1 h2 hE hp hD hok hz hout
   obtain⟨m,rfl⟩:=Int.eq_ofNat_of_zero_le (show 0≤at_ by omega)
   by_cases hz:(Ce c).e=0
   ·exact bytes_ig w hL c hc hLim m tn htn _ rfl (Ue h1) h1 h2 hE hp hD hok hz (by omega) (by omega)
   exact bytes_ib w hL c hc hLim m tn htn _ rfl (Ue h1) h1 h2 hE hp hD hok hz (by omega) (by omega)
  exact bytes_B w hL c hc hLim at_ hat tn htn h1 (by omega)
 exact bytes_C w hL c hc hLim at_ hat tn htn (Bool.eq_false_iff.2 h1)
end Go.Proofs.YtekjfiegdpoajaaGreatDoor.Bz
namespace Go.Proofs.YtekjfiegdpoajaaGreatDoor.Row
open Go.ChangeShapes Go.WideShapes Go.ChangeAt Go.RowKit
set_option linter.unusedVariables false
section
variable {H:Type}{enc:TypeId×Value→H}{P:Program}
theorem ZaA(hl:laidOutB P=true){W W':World}(hb:Below W.heap.size W W') :
   ∀ {ts:List TypeId} {vs:List Value} {ds:List (DataW H)} {ps:List MemPlace},
     ts.all (fun t=>P.readableRec t&&decide (t<P.types.size))=true→(∀ x∈ps,x.block<W.heap.size) →
     DataW.TrodAll enc P W 0 (fun _=>true) true ts vs ds ps→DataW.TrodAll enc P W' 0 (fun b=>decide (b<W.heap.size)) true ts vs ds ps:=by
 intro ts
 induction ts with
 | nil =>
   intro vs ds ps _ _ h
   obtain⟨rfl,rfl,rfl⟩:=trodAll_nil h
   exact trodAll_mk0
 | cons t ts ih =>
   intro vs ds ps ht hlt h
   obtain⟨v0,vs0,d0,ds0,p0,q0,rfl,rfl,rfl,h0,r0⟩:=trodAll_cons h
   simp only[List.all_cons,Bool.and_eq_true,decide_eq_true_eq]at ht
   refine trodAll_cons_mk (Below.trod hl ht.1.1 ht.1.2 h0 hb (fun x hx=>hlt x (by simp[hx]))) (ih ht.2 (fun x hx=>hlt x (by simp[hx])) r0)
theorem post_true(hl:laidOutB P=true){f:Func}{s:ChangeSpec}{tb:TypeId}{W W':World}{args:Array Value}{ds gs:List (DataW H)}{before:List MemPlace}
   (hts:f.params.toList.all (fun t=>P.readableRec t&&decide (t<P.types.size))=true) (hres:f.resultTypes = #[tb]) (hbool:P.underlying tb=some .bool)
   (hvars:s.vars=[]) (hfn:s.fn H (ds++gs)={ results:=[.lit (.bool true)],args:=ds })
   (hW:DataW.Whole enc P f.params.toList s.vars false W args.toList ds gs before) (bel:Below W.heap.size W W') :
   s.post enc P f false true false false W args (.bool true) W':=by
 have hW':=hW
 obtain⟨p,q,hA,hV,rfl,hfz,hnd⟩:=hW
 rw[hvars]at hV
 obtain⟨rfl,rfl⟩:=trodVars_none hV
 have hlt:∀ x∈p,x.block<W.heap.size:=fun x hx=>hW'.lt x (by simp[hx])
 refine⟨ds,[],_,[],p,[],hW', ?_, ?_, ?_,bel.frame _,fun h=>by cases h⟩
 · rw[hfn,hres];exact trodAll_mk1 (shut_bool hbool _)
 · rw[hfn];exact ZaA hl bel hts hlt hA
 · rw[hfn,hvars];rfl
end
end Go.Proofs.YtekjfiegdpoajaaGreatDoor.Row
