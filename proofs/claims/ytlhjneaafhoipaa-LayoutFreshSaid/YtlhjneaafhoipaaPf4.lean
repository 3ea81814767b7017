/- Packed: Lq, Fg, Fb, Fh, Rd, Row. No conditions. -/
import Derived.Test.YtlhjneaafhoipaaPf3
import Derived.Test.YtlhjneaafhoipaaRows
import Derived.WalkKit
import Derived.ProofKit
import Derived.OpenShut
import Derived.ShutString
import Derived.ChangeOld
import Derived.Below
import Derived.Carry
import Derived.SizedLaws
set_option maxHeartbeats 4000000
namespace Go.Proofs.Ytlhjneaafhoipaa.Ly
open Go Go.Proofs.Ytlhjneaafhoipaa.Eng Go.Proofs.Ytlhjneaafhoipaa.Mem
set_option linter.unusedSimpArgs false
set_option linter.unusedVariables false
set_option maxRecDepth 100000
structure SameP(p q:Aj):Prop where
 nums:p.Lock=q.Lock∧p.Fh=q.Fh∧p.State=q.State∧p.Root=q.Root
 tl:p.Tables.xs.length=q.Tables.xs.length
 tabs:∀ k,k<p.Tables.xs.length→gd p.Tables.xs k=gd q.Tables.xs k
structure SameC(p q:Aq):Prop where
 nums:p.Lock=q.Lock∧p.Gw=q.Gw∧p.Partition=q.Partition∧p.Port=q.Port
 dl:p.AX.xs.length=q.AX.xs.length
 ds:∀ k,k<p.AX.xs.length→(gd p.AX.xs k).Partition=(gd q.AX.xs k).Partition∧(gd p.AX.xs k).Port=(gd q.AX.xs k).Port∧(gd p.AX.xs k).At=(gd q.AX.xs k).At
structure XQ(a b:Bj):Prop where
 nums:a.Ji=b.Ji∧a.End=b.End
 pl:a.Aa.xs.length=b.Aa.xs.length
 cl:a.Ac.xs.length=b.Ac.xs.length
 ps:∀ i,i<a.Aa.xs.length→SameP (gd a.Aa.xs i) (gd b.Aa.xs i)
 cs:∀ i,i<a.Ac.xs.length→SameC (gd a.Ac.xs i) (gd b.Ac.xs i)
theorem same_of{c:Af}{a b:Bj}(ha:Lm c a)(hb:Lm c b):XQ a b:=by
 refine⟨⟨by rw[ha.bar,hb.bar],by rw[ha.fin,hb.fin]⟩,by rw[ha.pl,hb.pl],by rw[ha.cl,hb.cl], ?_, ?_⟩
 ·intro i hi
  rw[ha.pl]at hi
  obtain⟨x,cx,e1⟩:=ha.ps i hi
  obtain⟨y,cy,e2⟩:=hb.ps i hi
  rw[e1,e2]
  exact⟨⟨rfl,rfl,rfl,rfl⟩,rfl,fun _ _=>rfl⟩
 intro k hk
 rw[ha.cl]at hk
 obtain⟨x,cx,e1⟩:=ha.cs k hk
 obtain⟨y,cy,e2⟩:=hb.cs k hk
 rw[e1,e2]
 exact⟨⟨rfl,rfl,rfl,rfl⟩,rfl,fun _ _=>⟨rfl,rfl,rfl⟩⟩
abbrev TK:Bj:=⟨0,⟨none,0,[]⟩,⟨none,0,[]⟩,0⟩
theorem same_no:XQ TK TK:=⟨⟨rfl,rfl⟩,rfl,rfl,fun i hi=>absurd hi (Nat.not_lt_zero i),fun i hi=>absurd hi (Nat.not_lt_zero i)⟩
theorem noLay_ok{F:Nat→Prop}{W:World}:Bj.ok F W TK:=⟨Ll (Int.le_refl _) (by decide),TT,TT,Ll (Int.le_refl _) (by decide)⟩
section
variable (n2:Nat)(y19:Aj)(n40:Nat)(y57:Aq)(y11:Aj)(y49:Aq)(z:Nat)(lb la:Bj)
abbrev VQ:=bk (n2+1) (Aj.arr y19) 69
abbrev VZ:=bk (n40+1) (Aq.arr y57) 62
abbrev Uf:=bk n2 (Aj.arr y11) 69
abbrev U7:=bk n40 (Aq.arr y49) 62
abbrev JD:=bk (z+1) (Bj.arr lb) 31
abbrev J9:=bk z (Bj.arr la) 31
abbrev Me:=(45,Ad la.Aa.xs.length)
abbrev Md:=(115,Ad la.Ac.xs.length)
abbrev Tq:=(96,Ad y11.Tables.xs.length)
abbrev Tc:=(166,Ad y49.AX.xs.length)
abbrev Q7:=(11,pt (n40+1))
abbrev Q5:=(7,pt (n2+1))
abbrev Fz:=(3,pt (z+1))
abbrev PP:=(10,pt n40)
abbrev PK:=(6,pt n2)
end
theorem WB(w:World)(la lb:Bj)(ha:Bj.ok Any w la)(hb:Bj.ok Any w lb)(hM:XQ la lb):Calls Try.prog 12 #[.agg (Bj.arr la),.agg (Bj.arr lb)] w fun e w'=>e = .returned (.bool true)∧BN (fun _=>False) w w':=by
 obtain⟨z,hz⟩:∃ z,z=w.heap.size:=⟨_,rfl⟩
 refine BV (args:=[.agg (Bj.arr la),.agg (Bj.arr lb)]) 183 ⟨w,z,[(Ak w)]⟩ Try.func12 rfl (by kernel_rfl) (by kernel_rfl) (Fv hz) ?_
 have hn0:=hM.nums;have hpl:=hM.pl;have hcl:=hM.cl;have hl1:=ha.Aa.1.len;have hl2:=ha.Ac.1.len
 refine Eb [0,1] [(0,.agg (Bj.arr la)),(1,.agg (Bj.arr lb))] ?_
 refine q_c 18 0 [0] [[o0,o0,o0],[o0,(a1 1),o0,(a1 2),oF,o0,o0,(a1 1),o0,(a1 2),oF,o0,o0,o0,(a1 1),o0,o0,(a1 2),o0,oF,o0,o0,o0,(a1 1),o0,o0,(a1 2),o0,oF,o0],[o0,(a1 1),o0,o0]] [Qb z,Qb (z+1),NF la.Ji lb.Ji,Qb z,Qb (z+1),NF la.End lb.End,Qb z,Qb (z+1),NF (la.Aa.xs.length:Int) (lb.Aa.xs.length:Int),Qb z,Qb (z+1),NF (la.Ac.xs.length:Int) (lb.Ac.xs.length:Int),Qb z] [(2,pt z),(Fz z),(Me la),(46,i6 0)] ⟨w,z+2,[(Ak w),(J9 z la),(JD z lb)]⟩ rfl ⟨rfl,rfl,nf,rfl,rfl,nf,rfl,rfl,nf,rfl,rfl,nf,rfl,Ae⟩ ?_
 refine Ce (fun m a w'=>∃ (n2:Nat) (i:Nat),m=la.Aa.xs.length - i∧z+2≤n2∧(i≤la.Aa.xs.length)∧St 183 [(2,pt z),(Fz z),(Me la),(46,Ad i)] [] ⟨w,n2,[(Ak w),(J9 z la),(JD z lb)]⟩ a w') (la.Aa.xs.length - 0) ?_ ?_
 ·intro a w' hs;exact⟨(z+2),0,rfl,Nat.le_refl _,Nat.zero_le _,hs⟩
 rintro m a w' ⟨n2,i,rfl,hn1,hki,hs⟩
 refine(?_:G Try.prog 183 [(2,pt z),(Fz z),(Me la),(46,Ad i)] [] ⟨w,n2,[(Ak w),(J9 z la),(JD z lb)]⟩ _ _ _) a w' hs
 clear hs a w'
 refine CP ?_
 by_cases h3:(i:Int)<(la.Aa.xs.length:Int)
 ·refine A8 14 0 [1] [[oT],[o0,o0]] [BT ((i:Int)<(la.Aa.xs.length:Int))] [(2,pt z),(Fz z),(Me la),(46,Ad i),(5,Ad i)] rfl ⟨bt,Ae⟩ ?_
  obtain⟨b4,o5,ha6,hF8,hc7⟩:=(ha.Aa).1.all (show 0<la.Aa.xs.length by omega)
  replace ha6:la.Aa.a=some ⟨b4,o5,none⟩:=ha6
  have hc9:=hc7 i (show i<la.Aa.xs.length by omega)
  have he10:=(ha.Aa).2 i (show i<la.Aa.xs.length by omega)
  obtain⟨y11,hy11⟩:∃ y_,y_=gd la.Aa.xs i:=⟨_,rfl⟩
  rw[←hy11]at he10 hc9
  have htln:=he10.Tables.1.len
  refine q_c 4 0 [] [[o0,(Du 1 b4 o5 la.Aa),o0,(oi i),(ol 0 (Aj.arr y11)),o0,(an 5 3)]] [Qb z,Df b4 o5 la.Aa,BI i,i<la.Aa.xs.length,Bq,Eh w b4 (o5+i*5) (Aj.arr y11),Qb n2,Qb n2,Qb n2,Qb n2,Qb n2] [(2,pt z),(Fz z),(Me la),(46,Ad i),(5,Ad i),(PK n2)] ⟨w,n2+1,[(Ak w),(J9 z la),(JD z lb),(Uf n2 y11)]⟩ rfl ⟨rfl,Dh ha6,rfl,(by omega),rfl,CB hc9,rfl,rfl,rfl,rfl,rfl,Ae⟩ ?_
  obtain⟨b12,o13,ha14,hF16,hc15⟩:=(hb.Aa).1.all (show 0<lb.Aa.xs.length by omega)
  replace ha14:lb.Aa.a=some ⟨b12,o13,none⟩:=ha14
  have hc17:=hc15 i (show i<lb.Aa.xs.length by omega)
  have he18:=(hb.Aa).2 i (show i<lb.Aa.xs.length by omega)
  obtain⟨y19,hy19⟩:∃ y_,y_=gd lb.Aa.xs i:=⟨_,rfl⟩
  rw[←hy19]at he18 hc17
  have hmp:=hM.ps i (by omega);rw[←hy11,←hy19]at hmp;have hn1:=hmp.nums;have hn2:=hmp.tl
  refine q_c 16 0 [0] [[o0,(Du 2 b12 o13 lb.Aa),o0,(oi i),(ol 0 (Aj.arr y19)),o0,(an 5 4)],[o0,(a1 3),o0,(a1 4),oF,o0,o0,(a1 3),o0,(a1 4),oF,o0,o0,o0,(a1 3),o0,(a1 4),oF,o0,o0,o0,(a1 3),o0,(a1 4),oF,o0,o0,o0,(a1 3),o0,o0,(a1 4),o0,oF,o0],[o0,(a1 3),o0,o0]] [Qb (z+1),Df b12 o13 lb.Aa,BI i,i<lb.Aa.xs.length,Bq,Eh w b12 (o13+i*5) (Aj.arr y19),Qb (n2+1),Qb (n2+1),Qb (n2+1),Qb (n2+1),Qb (n2+1),Qb n2,Qb (n2+1),NF y11.Lock y19.Lock,Qb n2,Qb (n2+1),NF y11.Fh y19.Fh,Qb n2,Qb (n2+1),NF y11.State y19.State,Qb n2,Qb (n2+1),NF y11.Root y19.Root,Qb n2,Qb (n2+1),NF (y11.Tables.xs.length:Int) (y19.Tables.xs.length:Int),Qb n2] [(2,pt z),(Fz z),(PK n2),(Q5 n2),(Me la),(46,Ad i),(Tq y11),(97,i6 0)] ⟨w,n2+2,[(Ak w),(J9 z la),(JD z lb),(Uf n2 y11),(VQ n2 y19)]⟩ rfl ⟨rfl,Dh ha14,rfl,(by omega),rfl,CB hc17,rfl,rfl,rfl,rfl,rfl,rfl,rfl,nf,rfl,rfl,nf,rfl,rfl,nf,rfl,rfl,nf,rfl,rfl,nf,rfl,Ae⟩ ?_
  refine Ce (fun m a w'=>∃ (n21:Nat) (k:Nat),m=y11.Tables.xs.length - k∧n2+2≤n21∧(k≤y11.Tables.xs.length)∧St 183 [(2,pt z),(Fz z),(PK n2),(Q5 n2),(Me la),(46,Ad i),(Tq y11),(97,Ad k)] [] ⟨w,n21,[(Ak w),(J9 z la),(JD z lb),(Uf n2 y11),(VQ n2 y19)]⟩ a w') (y11.Tables.xs.length - 0) ?_ ?_
  ·intro a w' hs;exact⟨(n2+2),0,rfl,Nat.le_refl _,Nat.zero_le _,hs⟩
  rintro m a w' ⟨n21,k,rfl,hn20,hkk,hs⟩
  refine(?_:G Try.prog 183 [(2,pt z),(Fz z),(PK n2),(Q5 n2),(Me la),(46,Ad i),(Tq y11),(97,Ad k)] [] ⟨w,n21,[(Ak w),(J9 z la),(JD z lb),(Uf n2 y11),(VQ n2 y19)]⟩ _ _ _) a w' hs
  clear hs a w'
  refine CP ?_
  by_cases h22:(k:Int)<(y11.Tables.xs.length:Int)
  ·refine A8 14 0 [1] [[oT],[o0,o0]] [BT ((k:Int)<(y11.Tables.xs.length:Int))] [(2,pt z),(Fz z),(PK n2),(Q5 n2),(Me la),(46,Ad i),(Tq y11),(97,Ad k),(8,Ad k)] rfl ⟨bt,Ae⟩ ?_
   obtain⟨b23,o24,ha25,hF27,hc26⟩:=(he10.Tables).1.all (show 0<y11.Tables.xs.length by omega)
   replace ha25:y11.Tables.a=some ⟨b23,o24,none⟩:=ha25
   have hc28:=hc26 k (show k<y11.Tables.xs.length by omega)
   have he29:=(he10.Tables).2 k (show k<y11.Tables.xs.length by omega)
   obtain⟨y30,hy30⟩:∃ y_,y_=gd y11.Tables.xs k:=⟨_,rfl⟩
   rw[←hy30]at he29 hc28
   obtain⟨b31,o32,ha33,hF35,hc34⟩:=(he18.Tables).1.all (show 0<y19.Tables.xs.length by omega)
   replace ha33:y19.Tables.a=some ⟨b31,o32,none⟩:=ha33
   have hc36:=hc34 k (show k<y19.Tables.xs.length by omega)
   have he37:=(he18.Tables).2 k (show k<y19.Tables.xs.length by omega)
   obtain⟨y38,hy38⟩:∃ y_,y_=gd y19.Tables.xs k:=⟨_,rfl⟩
   rw[←hy38]at he37 hc36
   have hmt:=hmp.tabs k (by omega);rw[←hy30,←hy38]at hmt
   refine Fp 11 [0,1,2,3,4] [(Ak w),(J9 z la),(JD z lb),(Uf n2 y11),(VQ n2 y19)] rfl rfl ?_
   refine CU [(0,o0),(1,(Du 3 b23 o24 y11.Tables)),(2,o0),(3,(oi k)),(4,(oa [.via 0 (i6 y30)])),(5,o0),(6,(Du 4 b31 o32 y19.Tables)),(7,o0),(8,(oi k)),(9,(oa [.via 0 (i6 y38)])),(10,oF)] [2,3,6,7,45,46,96,97,110] [Qb n2,Df b23 o24 y11.Tables,BI k,k<y11.Tables.xs.length,Bq,Old w b23 (o24+k) (i6 y30),Qb (n2+1),Df b31 o32 y19.Tables,BI k,k<y19.Tables.xs.length,Bq,Old w b31 (o32+k) (i6 y38),NF y30 y38] (Ed 11 0) [(2,pt z),(Fz z),(PK n2),(Q5 n2),(Me la),(46,Ad i),(Tq y11),(97,Ad k),(110,.bool false)] ⟨rfl,Dh ha25,rfl,(by omega),rfl,BA (hc28 0 _ rfl),rfl,Dh ha33,rfl,(by omega),rfl,BA (hc36 0 _ rfl),nf,Ae⟩ ?_
   refine D9 ?_
   refine Ja 7 0 [0] [[(ov (i6 ((k+1:Nat):Int))),o0]] [Wr ((k:Int)+1) (((k+1:Nat):Int))] [(2,pt z),(Fz z),(PK n2),(Q5 n2),(Me la),(46,Ad i),(Tq y11),(97,i6 ((k+1:Nat):Int))] rfl ⟨Be,Ae⟩ ?_
   refine Bz (fun a w' hs=>⟨y11.Tables.xs.length - (k+1),by omega,n21,(k+1),rfl,by omega,by omega,hs⟩)
  refine A8 13 0 [0] [[oF],[(ov (i6 ((i+1:Nat):Int))),o0]] [BF ((k:Int)<(y11.Tables.xs.length:Int)),Wr ((i:Int)+1) (((i+1:Nat):Int))] [(2,pt z),(Fz z),(Me la),(46,i6 ((i+1:Nat):Int))] rfl ⟨bf,Be,Ae⟩ ?_
  refine BO [0,1,2] [(Ak w),(J9 z la),(JD z lb)] rfl rfl ?_
  refine Dp [2,3,45,46] [(2,pt z),(Fz z),(Me la),(46,i6 ((i+1:Nat):Int))] ?_
  refine Bz (fun a w' hs=>⟨la.Aa.xs.length - (i+1),by omega,n21,(i+1),rfl,by omega,by omega,hs⟩)
 refine A8 16 0 [0] [[oF],[o0,(a1 1),o0,o0]] [BF ((i:Int)<(la.Aa.xs.length:Int)),Qb z] [(2,pt z),(Fz z),(Md la),(116,i6 0)] rfl ⟨bf,rfl,Ae⟩ ?_
 refine Ce (fun m a w'=>∃ (n40:Nat) (j:Nat),m=la.Ac.xs.length - j∧n2≤n40∧(j≤la.Ac.xs.length)∧St 183 [(2,pt z),(Fz z),(Md la),(116,Ad j)] [] ⟨w,n40,[(Ak w),(J9 z la),(JD z lb)]⟩ a w') (la.Ac.xs.length - 0) ?_ ?_
 ·intro a w' hs;exact⟨n2,0,rfl,Nat.le_refl _,Nat.zero_le _,hs⟩
 rintro m a w' ⟨n40,j,rfl,hn39,hkj,hs⟩
 refine(?_:G Try.prog 183 [(2,pt z),(Fz z),(Md la),(116,Ad j)] [] ⟨w,n40,[(Ak w),(J9 z la),(JD z lb)]⟩ _ _ _) a w' hs
 clear hs a w'
 refine CP ?_
 by_cases h41:(j:Int)<(la.Ac.xs.length:Int)
 ·refine A8 14 0 [1] [[oT],[o0,o0]] [BT ((j:Int)<(la.Ac.xs.length:Int))] [(2,pt z),(Fz z),(Md la),(116,Ad j),(9,Ad j)] rfl ⟨bt,Ae⟩ ?_
  obtain⟨b42,o43,ha44,hF46,hc45⟩:=(ha.Ac).1.all (show 0<la.Ac.xs.length by omega)
  replace ha44:la.Ac.a=some ⟨b42,o43,none⟩:=ha44
  have hc47:=hc45 j (show j<la.Ac.xs.length by omega)
  have he48:=(ha.Ac).2 j (show j<la.Ac.xs.length by omega)
  obtain⟨y49,hy49⟩:∃ y_,y_=gd la.Ac.xs j:=⟨_,rfl⟩
  rw[←hy49]at he48 hc47
  have hdln:=he48.AX.1.len
  refine q_c 4 0 [] [[o0,(Du 1 b42 o43 la.Ac),o0,(oi j),(ol 0 (Aq.arr y49)),o0,(an 5 3)]] [Qb z,Df b42 o43 la.Ac,BI j,j<la.Ac.xs.length,Bq,Eh w b42 (o43+j*5) (Aq.arr y49),Qb n40,Qb n40,Qb n40,Qb n40,Qb n40] [(2,pt z),(Fz z),(Md la),(116,Ad j),(9,Ad j),(PP n40)] ⟨w,n40+1,[(Ak w),(J9 z la),(JD z lb),(U7 n40 y49)]⟩ rfl ⟨rfl,Dh ha44,rfl,(by omega),rfl,CB hc47,rfl,rfl,rfl,rfl,rfl,Ae⟩ ?_
  obtain⟨b50,o51,ha52,hF54,hc53⟩:=(hb.Ac).1.all (show 0<lb.Ac.xs.length by omega)
  replace ha52:lb.Ac.a=some ⟨b50,o51,none⟩:=ha52
  have hc55:=hc53 j (show j<lb.Ac.xs.length by omega)
  have he56:=(hb.Ac).2 j (show j<lb.Ac.xs.length by omega)
  obtain⟨y57,hy57⟩:∃ y_,y_=gd lb.Ac.xs j:=⟨_,rfl⟩
  rw[←hy57]at he56 hc55
  have hmc:=hM.cs j (by omega);rw[←hy49,←hy57]at hmc;have hn1:=hmc.nums;have hn2:=hmc.dl
  refine q_c 16 0 [0] [[o0,(Du 2 b50 o51 lb.Ac),o0,(oi j),(ol 0 (Aq.arr y57)),o0,(an 5 4)],[o0,(a1 3),o0,(a1 4),oF,o0,o0,(a1 3),o0,(a1 4),oF,o0,o0,o0,(a1 3),o0,(a1 4),oF,o0,o0,o0,(a1 3),o0,(a1 4),oF,o0,o0,o0,(a1 3),o0,o0,(a1 4),o0,oF,o0],[o0,(a1 3),o0,o0]] [Qb (z+1),Df b50 o51 lb.Ac,BI j,j<lb.Ac.xs.length,Bq,Eh w b50 (o51+j*5) (Aq.arr y57),Qb (n40+1),Qb (n40+1),Qb (n40+1),Qb (n40+1),Qb (n40+1),Qb n40,Qb (n40+1),NF y49.Lock y57.Lock,Qb n40,Qb (n40+1),NF y49.Gw y57.Gw,Qb n40,Qb (n40+1),NF y49.Partition y57.Partition,Qb n40,Qb (n40+1),NF y49.Port y57.Port,Qb n40,Qb (n40+1),NF (y49.AX.xs.length:Int) (y57.AX.xs.length:Int),Qb n40] [(2,pt z),(Fz z),(PP n40),(Q7 n40),(Md la),(116,Ad j),(Tc y49),(167,i6 0)] ⟨w,n40+2,[(Ak w),(J9 z la),(JD z lb),(U7 n40 y49),(VZ n40 y57)]⟩ rfl ⟨rfl,Dh ha52,rfl,(by omega),rfl,CB hc55,rfl,rfl,rfl,rfl,rfl,rfl,rfl,nf,rfl,rfl,nf,rfl,rfl,nf,rfl,rfl,nf,rfl,rfl,nf,rfl,Ae⟩ ?_
  refine Ce (fun m a w'=>∃ (n59:Nat) (k:Nat),m=y49.AX.xs.length - k∧n40+2≤n59∧(k≤y49.AX.xs.length)∧St 183 [(2,pt z),(Fz z),(PP n40),(Q7 n40),(Md la),(116,Ad j),(Tc y49),(167,Ad k)] [] ⟨w,n59,[(Ak w),(J9 z la),(JD z lb),(U7 n40 y49),(VZ n40 y57)]⟩ a w') (y49.AX.xs.length - 0) ?_ ?_
  ·intro a w' hs;exact⟨(n40+2),0,rfl,Nat.le_refl _,Nat.zero_le _,hs⟩
  rintro m a w' ⟨n59,k,rfl,hn58,hkk,hs⟩
  refine(?_:G Try.prog 183 [(2,pt z),(Fz z),(PP n40),(Q7 n40),(Md la),(116,Ad j),(Tc y49),(167,Ad k)] [] ⟨w,n59,[(Ak w),(J9 z la),(JD z lb),(U7 n40 y49),(VZ n40 y57)]⟩ _ _ _) a w' hs
  clear hs a w'
  refine CP ?_
  by_cases h60:(k:Int)<(y49.AX.xs.length:Int)
  ·refine A8 14 0 [1] [[oT],[o0,o0]] [BT ((k:Int)<(y49.AX.xs.length:Int))] [(2,pt z),(Fz z),(PP n40),(Q7 n40),(Md la),(116,Ad j),(Tc y49),(167,Ad k),(12,Ad k)] rfl ⟨bt,Ae⟩ ?_
   obtain⟨b61,o62,ha63,hF65,hc64⟩:=(he48.AX).1.all (show 0<y49.AX.xs.length by omega)
   replace ha63:y49.AX.a=some ⟨b61,o62,none⟩:=ha63
   have hc66:=hc64 k (show k<y49.AX.xs.length by omega)
   have he67:=(he48.AX).2 k (show k<y49.AX.xs.length by omega)
   obtain⟨y68,hy68⟩:∃ y_,y_=gd y49.AX.xs k:=⟨_,rfl⟩
   rw[←hy68]at he67 hc66
   obtain⟨b69,o70,ha71,hF73,hc72⟩:=(he56.AX).1.all (show 0<y57.AX.xs.length by omega)
   replace ha71:y57.AX.a=some ⟨b69,o70,none⟩:=ha71
   have hc74:=hc72 k (show k<y57.AX.xs.length by omega)
   have he75:=(he56.AX).2 k (show k<y57.AX.xs.length by omega)
   obtain⟨y76,hy76⟩:∃ y_,y_=gd y57.AX.xs k:=⟨_,rfl⟩
   rw[←hy76]at he75 hc74
   have hmd:=hmc.ds k (by omega);rw[←hy68,←hy76]at hmd
   refine Fp 11 [0,1,2,3,4] [(Ak w),(J9 z la),(JD z lb),(U7 n40 y49),(VZ n40 y57)] rfl rfl ?_
   refine CU [(0,o0),(1,(Du 3 b61 o62 y49.AX)),(2,o0),(3,(oi k)),(4,(ol 0 (AL.arr y68))),(5,o0),(6,(Du 4 b69 o70 y57.AX)),(7,o0),(8,(oi k)),(9,(ol 0 (AL.arr y76))),(10,⟨.seq true,none⟩)] [2,3,10,11,115,116,166,167,180] [Qb n40,Df b61 o62 y49.AX,BI k,k<y49.AX.xs.length,Bq,Eh w b61 (o62+k*3) (AL.arr y68),Qb (n40+1),Df b69 o70 y57.AX,BI k,k<y57.AX.xs.length,Bq,Eh w b69 (o70+k*3) (AL.arr y76),((y68.Partition:Int)==(y76.Partition:Int)&&((y68.Port:Int)==(y76.Port:Int)&&((y68.At:Int)==(y76.At:Int)&&true)))=true] (Ed 11 0) [(2,pt z),(Fz z),(PP n40),(Q7 n40),(Md la),(116,Ad j),(Tc y49),(167,Ad k),(180,.bool false)] ⟨rfl,Dh ha63,rfl,(by omega),rfl,CB hc66,rfl,Dh ha71,rfl,(by omega),rfl,CB hc74,(by simp only[Bool.and_true,Bool.and_eq_true,beq_iff_eq];omega),Ae⟩ ?_
   refine D9 ?_
   refine Ja 7 0 [0] [[(ov (i6 ((k+1:Nat):Int))),o0]] [Wr ((k:Int)+1) (((k+1:Nat):Int))] [(2,pt z),(Fz z),(PP n40),(Q7 n40),(Md la),(116,Ad j),(Tc y49),(167,i6 ((k+1:Nat):Int))] rfl ⟨Be,Ae⟩ ?_
   refine Bz (fun a w' hs=>⟨y49.AX.xs.length - (k+1),by omega,n59,(k+1),rfl,by omega,by omega,hs⟩)
  refine A8 13 0 [0] [[oF],[(ov (i6 ((j+1:Nat):Int))),o0]] [BF ((k:Int)<(y49.AX.xs.length:Int)),Wr ((j:Int)+1) (((j+1:Nat):Int))] [(2,pt z),(Fz z),(Md la),(116,i6 ((j+1:Nat):Int))] rfl ⟨bf,Be,Ae⟩ ?_
  refine BO [0,1,2] [(Ak w),(J9 z la),(JD z lb)] rfl rfl ?_
  refine Dp [2,3,115,116] [(2,pt z),(Fz z),(Md la),(116,i6 ((j+1:Nat):Int))] ?_
  refine Bz (fun a w' hs=>⟨la.Ac.xs.length - (j+1),by omega,n59,(j+1),rfl,by omega,by omega,hs⟩)
 refine A8 15 0 [0] [[oF],[o0]] [BF ((j:Int)<(la.Ac.xs.length:Int))] [(4,.bool true)] rfl ⟨bf,Ae⟩ ?_
 refine AZ [] [] (.bool true) Ae ?_
 intro w77 hw77
 exact⟨rfl,Bg hw77⟩
theorem Vp(w:World)(c:Af)(hc:Af.ok Any w c):Calls Try.prog 7 #[.agg (Af.arr c)] w fun e w'=>e = .returned (.tuple #[.int .i64 (Gi c),.int .i64 (errOf c)])∧BN (fun _=>False) w w':=by
 obtain⟨z,hz⟩:∃ z,z=w.heap.size:=⟨_,rfl⟩
 refine BV (args:=[.agg (Af.arr c)]) 19 ⟨w,z,[(Ak w)]⟩ Try.func7 rfl (by kernel_rfl) (by kernel_rfl) (Fv hz) ?_
 refine Eb [0] [(0,.agg (Af.arr c))] ?_
 refine q_c 6 1 [] [[o0,o0,o0],[(an 7 1)]] [Qb z,Qb z,Qb z,Qb z,Qb z,Qb z,Qb z] [(1,pt z),(7,.agg (Af.arr c))] ⟨w,z+1,[(Ak w),(bk z (Af.arr c) 26)]⟩ rfl ⟨rfl,rfl,rfl,rfl,rfl,rfl,rfl,Ae⟩ ?_
 refine l_call [] [] 5 #[.agg (Af.arr c)] (some 8) Ae ?_
 intro w1 hw1
 by_cases hok2:BZ c=true
 ·refine(Zg w1 c (hc.ext (hw1.ext rfl) (fun _ h=>h)) hok2).mono ?_
  rintro e w3 ⟨lw3,rfl,hIw3,hLw3,hOw3,hkw3⟩
  have hfw3:=MW hok2;have hknw3:=hfw3.kn;have hEw3:=hIw3.fin;have hEbw3:=NG hfw3 _ (Nat.le_refl _);have hpnw3:=hfw3.pn
  rw[hw1.size]at hLw3 hOw3
  have hnw3:z+1≤w3.heap.size:=Dx hw1 hkw3
  refine⟨_,_,rfl,hw1.Lc hkw3, ?_⟩
  refine Hu 15 0 [0] [[o0,o0,o0,o0,(an 4 3),o0],[o0,o0],[o0,(a1 3),o0,(a1 1),(ov (i6 (lw3.End - c.Kernel))),o0,o0]] [Qb w3.heap.size,Qb w3.heap.size,Qb w3.heap.size,Qb w3.heap.size,Qb w3.heap.size,Qb z,Wr ((lw3.End:Int) - c.Kernel) (lw3.End - c.Kernel)] [(2,i6 (lw3.End - c.Kernel)),(3,i6 0)] ⟨w,w3.heap.size+1,[(Ak w),(bk z (Af.arr c) 26),(mid (z+1) w3),(.blk w3.heap.size (.cells (Bj.arr lw3) 31 (0,0)) true)]⟩ rfl ⟨rfl,rfl,rfl,rfl,rfl,rfl,Be,Ae⟩ ?_
  refine AZ [] [] (.tuple #[i6 (lw3.End - c.Kernel),i6 0]) Ae ?_
  intro w4 hw4
  refine⟨?_,Bg hw4⟩
  unfold Gi errOf;rw[if_pos hok2,if_pos hok2];rw[←hEw3]
 refine(rof_no w1 c (hc.ext (hw1.ext rfl) (fun _ h=>h)) (Bool.eq_false_iff.2 hok2)).mono ?_
 rintro e w5 ⟨rfl,hkw5⟩
 have hnw5:z+1≤w5.heap.size:=Dx hw1 hkw5
 refine⟨_,_,rfl,hw1.keeps hkw5, ?_⟩
 refine Hu 13 0 [1] [[o0,o0,o0,o0,(an 4 2),o0],[o0,o0],[o0,o0,o0]] [Qb w5.heap.size,Qb w5.heap.size,Qb w5.heap.size,Qb w5.heap.size] [(2,i6 0),(3,i6 150)] ⟨w,w5.heap.size+1,[(Ak w),(bk z (Af.arr c) 26),(.blk w5.heap.size (.cells #[i6 0,.slice none 0 0,.slice none 0 0,i6 0] 31 (0,0)) true)]⟩ rfl ⟨rfl,rfl,rfl,rfl,Ae⟩ ?_
 refine AZ [] [] (.tuple #[i6 0,i6 150]) Ae ?_
 intro w6 hw6
 refine⟨?_,Bg hw6⟩
 unfold Gi errOf;rw[if_neg hok2,if_neg hok2]
section
variable {c:Af}{M:RM}
theorem room_ok{n m:Nat}{W w0:World}(hN:TL c)(hLim:UE c)(h:Kr c M)(hs:Sat ⟨w0,m,Qo n c M⟩ W):Af.ok (New n) W (RG c M)∧Ih.ok (New n) W (Uc c M):=by
 have r0:W.ownsRow n 77 3 (.slice M.aH (wid GY c.Ac.xs).length M.cH) (wid GY c.Ac.xs).length ((wid GY c.Ac.xs).flatMap Aw.cells):=hs.at (i:=0) rfl
 have r1:W.ownsRow n 57 1 (.slice M.aC (M.cs++M.sp).length M.cC) (M.cs++M.sp).length ((M.cs++M.sp).flatMap (fun x:Sl Am=>[Sl.val x])):=hs.at (i:=1) rfl
 have r2:W.ownsRow n 57 1 (.slice M.aW M.ws.length M.cW) M.ws.length (M.ws.flatMap (fun x:Sl Am=>[Sl.val x])):=hs.at (i:=2) rfl
 have r3:(AA n 73 3 Am.cells M.ws).holds W:=hs.at (i:=3) rfl
 have r4:(AA n 73 3 Am.cells M.sp).holds W:=hs.at (i:=4) rfl
 have r5:W.ownsRow n 52 8 (.slice M.aP (M.ps++BL Gj 12).length M.cP) (M.ps++BL Gj 12).length ((M.ps++BL Gj 12).flatMap Ah.cells):=hs.at (i:=5) rfl
 have r6:W.ownsRow n 49 1 (.slice M.aR M.rs.length M.cR) M.rs.length (M.rs.flatMap (fun x:Sl Ar=>[Sl.val x])):=hs.at (i:=6) rfl
 have r7:(AA n 54 4 Ar.cells M.rs).holds W:=hs.at (i:=7) rfl
 have r8:W.ownsRow n 50 1 (.slice M.aQ M.qs.length M.cQ) M.qs.length (M.qs.flatMap (fun x:Sl AC=>[Sl.val x])):=hs.at (i:=8) rfl
 have r9:(AA n 75 2 AC.cells M.qs).holds W:=hs.at (i:=9) rfl
 have b1:=hLim.cl
 have b2:=hLim.pl
 have b3:=hLim.hl
 have l1:=h.Ub.l1
 have l2:=h.Ub.l2
 have l3:=h.sp.1
 have l4:=h.prt.l1
 have l5:=h.prt.l2
 have l6:=h.prt.l3
 have l0:(wid GY c.Ac.xs).length=c.Ac.xs.length+12:=Nc
 have lc:(M.cs++M.sp).length=c.Az.xs.length+12:=by rw[List.length_append];omega
 have lp:(M.ps++BL Gj 12).length=c.Aa.xs.length+12:=by rw[List.length_append,Dv];omega
 have s0:Jd Aw.cells 3 (New n) W ⟨M.aH,M.cH,wid GY c.Ac.xs⟩:=JF (fun _=>rfl) r0 (by omega)
 have s1:Jd (fun x:Sl Am=>[Sl.val x]) 1 (New n) W ⟨M.aC,M.cC,M.cs++M.sp⟩:=JF (fun _=>rfl) r1 (by omega)
 have s2:Jd (fun x:Sl Am=>[Sl.val x]) 1 (New n) W ⟨M.aW,M.cW,M.ws⟩:=JF (fun _=>rfl) r2 (by omega)
 have s5:Jd Ah.cells 8 (New n) W ⟨M.aP,M.cP,M.ps++BL Gj 12⟩:=JF (fun _=>rfl) r5 (by omega)
 have s6:Jd (fun x:Sl Ar=>[Sl.val x]) 1 (New n) W ⟨M.aR,M.cR,M.rs⟩:=JF (fun _=>rfl) r6 (by omega)
 have s8:Jd (fun x:Sl AC=>[Sl.val x]) 1 (New n) W ⟨M.aQ,M.cQ,M.qs⟩:=JF (fun _=>rfl) r8 (by omega)
 have w3:∀ i,i<c.Az.xs.length→Jd Am.cells 3 (New n) W (gd M.ws i):=fun i hi=>OI (cells:=Am.cells) (hs:=M.ws) (fun _=>rfl) r3 (XO (by omega)) (by rw[room_wl h hi];have:=hLim.ws i hi;omega)
 have w4:∀ i,i<M.sp.length→Jd Am.cells 3 (New n) W (gd M.sp i):=fun i hi=>OI (cells:=Am.cells) (hs:=M.sp) (fun _=>rfl) r4 (XO hi) (by rw[h.sp.2 i (by omega)];show 1≤_;omega)
 have w7:∀ i,i<c.Aa.xs.length→Jd Ar.cells 4 (New n) W (gd M.rs i):=fun i hi=>OI (cells:=Ar.cells) (hs:=M.rs) (fun _=>rfl) r7 (XO (by omega)) (by rw[room_rl h hi];have:=hLim.rs i hi;omega)
 have w9:∀ i,i<c.Aa.xs.length→Jd AC.cells 2 (New n) W (gd M.qs i):=fun i hi=>OI (cells:=AC.cells) (hs:=M.qs) (fun _=>rfl) r9 (XO (by omega)) (by rw[room_ql h hi];have:=hLim.qs i hi;omega)
 have v3:∀ i,i<c.Az.xs.length→F8 Am.cells 3 Am.ok (New n) W (gd M.cs i):=fun i hi=>by
  rw[h.Ub.c1 i hi]
  refine⟨?_,fun k hk=>hN.ws i hi k hk _ _⟩
  have e:=w3 i hi
  rw[show gd M.ws i=⟨(gd M.ws i).a,(gd M.ws i).cap,(gd M.ws i).xs⟩from rfl,h.Ub.w1 i hi]at e
  have:=Tj (n:=(gd c.Az.xs i).xs.length) e
  rw[TJ]at this;exact this
 have vP:∀ i,i<c.Aa.xs.length→Ah.ok (New n) W (gd M.ps i):=fun i hi=>by
  rw[h.prt.p1 i hi]
  obtain⟨a1,a2,a3,a4,a5,a6⟩:=hN.ps i hi
  refine⟨a1,a2,a3,a4,a5,a6,⟨?_,fun k hk=>hN.rs i hi k hk _ _⟩,⟨?_,fun k hk=>hN.qs i hi k hk _ _⟩⟩
  ·have e:=w7 i hi
   rw[show gd M.rs i=⟨(gd M.rs i).a,(gd M.rs i).cap,(gd M.rs i).xs⟩from rfl,h.prt.r1 i hi]at e
   have:=Tj (n:=(gd c.Aa.xs i).Ag.xs.length) e
   rw[TJ]at this;exact this
  have e:=w9 i hi
  rw[show gd M.qs i=⟨(gd M.qs i).a,(gd M.qs i).cap,(gd M.qs i).xs⟩from rfl,h.prt.q1 i hi]at e
  have:=Tj (n:=(gd c.Aa.xs i).Ai.xs.length) e
  rw[TJ]at this;exact this
 have z0:Fb .i64 0:=Zz (by decide) (by decide)
 have zm:∀ k:Nat,k<12→Fb .i64 (-70 - (k:Int)):=fun k hk=>Zz (by omega) (by omega)
 refine⟨⟨hN.nums.1,hN.nums.2.1,hN.nums.2.2.1,hN.nums.2.2.2,⟨?_,fun i hi=>v3 i (by rw[←l1];exact hi)⟩,⟨?_,fun i hi=>vP i (by rw[←l4];exact hi)⟩,⟨?_,fun i hi=>hN.hs i hi _ _⟩⟩,⟨⟨s1,fun i hi => ?_⟩,⟨s2,fun i hi => ?_⟩,⟨s5,fun i hi => ?_⟩,⟨s6,fun i hi => ?_⟩,⟨s8,fun i hi => ?_⟩,⟨s0,VI (p:=fun x=>Aw.ok (New n) W x) (fun k hk=>hN.hs k hk _ _) (fun k hk=>⟨zm k hk,z0,z0⟩)⟩⟩⟩
 ·have:=Tj (n:=M.cs.length) s1
  rw[List.take_left]at this;exact this
 ·have:=Tj (n:=M.ps.length) s5
  rw[List.take_left]at this;exact this
 ·have:=Tj (n:=c.Ac.xs.length) s0
  rw[TJ]at this;exact this
 ·have hi':i<c.Az.xs.length+12:=by rw[←lc];exact hi
  show F8 Am.cells 3 Am.ok (New n) W (gd (M.cs++M.sp) i)
  by_cases e:i<c.Az.xs.length
  ·rw[XP (by omega)];exact v3 i e
  rw[UN (k:=i - c.Az.xs.length) (by omega) (by omega)]
  refine⟨w4 _ (by omega),fun k hk => ?_⟩
  have e2:=h.sp.2 (i - c.Az.xs.length) (by omega)
  rw[e2]at hk ⊢
  have hk0:k=0:=by simp at hk;omega
  subst hk0
  exact⟨zm _ (by omega),z0,z0⟩
 ·have hi':i<c.Az.xs.length:=by rw[←l2];exact hi
  show F8 Am.cells 3 Am.ok (New n) W (gd M.ws i)
  refine⟨w3 i hi', ?_⟩
  rw[h.Ub.w1 i hi']
  exact VI (p:=fun x=>Am.ok (New n) W x) (fun k hk=>hN.ws i hi' k hk _ _) (fun k hk=>⟨zm k hk,z0,z0⟩)
 ·have hi':i<c.Aa.xs.length+12:=by rw[←lp];exact hi
  show Ah.ok (New n) W (gd (M.ps++BL Gj 12) i)
  by_cases e:i<c.Aa.xs.length
  ·rw[XP (by omega)];exact vP i e
  rw[UN (k:=i - c.Aa.xs.length) (by omega) (by rw[Dv];omega),YJ (by omega)]
  exact⟨Nat.zero_le _,zm _ (by omega),z0,z0,z0,z0,TT,TT⟩
 ·have hi':i<c.Aa.xs.length:=by rw[←l5];exact hi
  show F8 Ar.cells 4 Ar.ok (New n) W (gd M.rs i)
  refine⟨w7 i hi', ?_⟩
  rw[h.prt.r1 i hi']
  exact VI (p:=fun x=>Ar.ok (New n) W x) (fun k hk=>hN.rs i hi' k hk _ _) (fun k hk=>⟨zm k hk,z0,z0,z0⟩)
 have hi':i<c.Aa.xs.length:=by rw[←l6];exact hi
 show F8 AC.cells 2 AC.ok (New n) W (gd M.qs i)
 refine⟨w9 i hi', ?_⟩
 rw[h.prt.q1 i hi']
 exact VI (p:=fun x=>AC.ok (New n) W x) (fun k hk=>hN.qs i hi' k hk _ _) (fun k hk=>⟨zm k hk,Ae⟩)
theorem room_new{w0 W:World}{m n:Nat}(h:Sat ⟨w0,m,Qo n c M⟩ W):∀ x∈Qo n c M,∀ b,x.F b→n≤b:=by
 intro x hx b hb
 have hh:=h.all x hx
 simp only[Qo,List.mem_cons,List.not_mem_nil,or_false]at hx
 rcases hx with rfl | rfl | rfl | rfl | rfl | rfl | rfl | rfl | rfl | rfl
 ·exact Qw hh b hb
 ·exact Qw hh b hb
 ·exact Qw hh b hb
 ·exact Va hh b hb
 ·exact Va hh b hb
 ·exact Qw hh b hb
 ·exact Qw hh b hb
 ·exact Va hh b hb
 ·exact Qw hh b hb
 exact Va hh b hb
end
def Vs(u:Int)(r:Ar):Ar:={ r with Ci:=u }
def Lu(u:Int)(n:Nat)(xs:List Ar):List Ar:=(xs.take n).map (Vs u)++xs.drop n
def pgS(u:Int)(n:Nat)(s:Sl Ar):Sl Ar:=⟨s.a,s.cap,Lu u n s.xs⟩
def Us(u:Int)(p:Ah):Ah:={ p with Ag:=⟨p.Ag.a,p.Ag.cap,p.Ag.xs.map (Vs u)⟩ }
def IG(u:Int)(c:Af):Af:={ c with Aa:=⟨c.Aa.a,c.Aa.cap,c.Aa.xs.map (Us u)⟩ }
def pgM(u:Int)(rs:List (Sl Ar))(M:RM):RM:={ M with ps:=M.ps.map (Us u),rs:=rs }
structure U2(u:Int)(c:Af)(r0:List (Sl Ar))(i:Nat)(rs:List (Sl Ar)):Prop where
 len:rs.length=r0.length
 lo:∀ q,q<i→gd rs q=pgS u (gd c.Aa.xs q).Ag.xs.length (gd r0 q)
 hi:∀ q,i≤q→q<r0.length→gd rs q=gd r0 q
section
variable {c:Af}{M:RM}{u:Int}{i:Nat}{rs:List (Sl Ar)}
theorem Sj{n:Nat}{xs:List Ar}:(Lu u n xs).length=xs.length:=by simp[Lu];omega
theorem pgL_zero{xs:List Ar}:Lu u 0 xs=xs:=by simp[Lu]
theorem pgL_gd{n:Nat}{xs:List Ar}(h:n<xs.length):gd (Lu u n xs) n=gd xs n:=by
 unfold Lu
 rw[UN (k:=0) (by simp;omega) (by simp;omega),DC (by simp;omega),DC h,List.getElem_drop];rfl
theorem pgL_set{n:Nat}{xs:List Ar}(h:n<xs.length):(Lu u n xs).set n (Vs u (gd xs n))=Lu u (n+1) xs:=by
 unfold Lu
 rw[List.set_append_right _ _ (by simp;omega),show n - ((xs.take n).map (Vs u)).length=0 from by simp;omega,List.take_succ_eq_append_getElem h,List.map_append,List.append_assoc,DC h]
 congr 1
 rw[List.drop_eq_getElem_cons h];rfl
theorem pgL_step{n:Nat}{xs:List Ar}(h:n<xs.length):(Lu u n xs).set n (Vs u (gd (Lu u n xs) n))=Lu u (n+1) xs:=by rw[pgL_gd h,pgL_set h]
theorem pgL_wid{xs:List Ar}:Lu u xs.length (wid JC xs)=wid JC (xs.map (Vs u)):=by
 unfold Lu wid
 rw[List.take_left,List.drop_left]
theorem pg_start{r0:List (Sl Ar)}:U2 u c r0 0 r0:=⟨rfl,fun q h=>absurd h (Nat.not_lt_zero q),fun _ _ _=>rfl⟩
theorem pg_next{r0:List (Sl Ar)}(h:U2 u c r0 i rs)(hi:i<r0.length){x:Sl Ar}(hx:x=pgS u (gd c.Aa.xs i).Ag.xs.length (gd r0 i)):U2 u c r0 (i+1) (rs.set i x):=by
 obtain⟨l,a,b⟩:=h
 refine⟨by rw[List.length_set];exact l,fun q hq => ?_,fun q h1 h2 => ?_⟩
 ·by_cases e:q=i
  ·subst e;rw[LG (by omega)];exact hx
  rw[RN (fun e2=>e e2.symm) (by omega)];exact a q (by omega)
 rw[RN (by omega) (by omega)];exact b q (by omega) h2
theorem pgP_d:Us u default=default:=rfl
theorem Rl:(IG u c).Aa.xs.length=c.Aa.xs.length:=List.length_map _
theorem RJ(q:Nat):gd (IG u c).Aa.xs q=Us u (gd c.Aa.xs q):=Vo pgP_d _ _
theorem pg_num(h:TL c)(hu:Fb .i64 u):TL (IG u c):=by
 refine⟨h.nums,h.ws,fun i hi => ?_,fun i hi k hk F W => ?_,fun i hi k hk F W => ?_,h.hs⟩
 ·rw[Rl]at hi;rw[RJ];exact h.ps i hi
 ·rw[Rl]at hi;rw[RJ]at hk ⊢
  have hk':k<(gd c.Aa.xs i).Ag.xs.length:=by have:((gd c.Aa.xs i).Ag.xs.map (Vs u)).length=_:=List.length_map _;rw[←this];exact hk
  have t:=h.rs i hi k hk' F W
  show Ar.ok F W (gd ((gd c.Aa.xs i).Ag.xs.map (Vs u)) k)
  rw[DC (by simpa using hk'),List.getElem_map,←DC hk']
  exact⟨hu,t.CE,t.Frame,t.Lp⟩
 rw[Rl]at hi;rw[RJ]at hk ⊢;exact h.qs i hi k hk F W
theorem pg_lim(h:UE c):UE (IG u c):=by
 refine⟨h.cl,by rw[Rl];exact h.pl,h.hl,h.ws,fun i hi => ?_,fun i hi => ?_⟩
 ·rw[Rl]at hi;rw[RJ];show(List.map _ _).length≤_;rw[List.length_map];exact h.rs i hi
 rw[Rl]at hi;rw[RJ];exact h.qs i hi
theorem pg_room(h:Kr c M)(hp:U2 u c M.rs c.Aa.xs.length rs):Kr (IG u c) (pgM u rs M):=by
 have l2:=h.prt.l2
 refine⟨⟨h.Ub.l1,h.Ub.l2,h.Ub.c1,h.Ub.w1⟩,h.sp, ?_⟩
 rw[Rl]
 refine⟨(List.length_map _).trans h.prt.l1,hp.len.trans l2,h.prt.l3,fun q hq => ?_,fun q hq => ?_,fun q hq => ?_⟩
 ·show gd (M.ps.map (Us u)) q=_
  rw[RJ,Vo pgP_d,h.prt.p1 q hq]
  show _=({ Us u (gd c.Aa.xs q)with Ag:=⟨(gd rs q).a,(gd rs q).cap - 0,_⟩,Ai:=_ }:Ah)
  rw[hp.lo q hq];rfl
 ·show(gd rs q).xs=_
  rw[hp.lo q hq,RJ]
  show Lu u _ (gd M.rs q).xs=wid JC ((gd c.Aa.xs q).Ag.xs.map (Vs u))
  rw[h.prt.r1 q hq,pgL_wid]
 rw[RJ];exact h.prt.q1 q hq
theorem pg_val(h:Kr c M)(hp:U2 u c M.rs c.Aa.xs.length rs):rs.map Sl.val=M.rs.map Sl.val:=by
 have l2:=h.prt.l2
 have hl:=hp.len
 apply List.ext_getElem (by simpa using hl)
 intro q h1 h2
 have hq:q<rs.length:=by simpa using h1
 rw[List.getElem_map,List.getElem_map,←DC hq,←DC (by simpa using h2),hp.lo q (by omega)]
 show Value.slice _ (Lu _ _ _).length _=_
 rw[Sj];rfl
theorem YA{α:Type}{xs:List (Sl α)}:xs.flatMap (fun x=>[Sl.val x])=xs.map Sl.val:=by induction xs with | nil=>rfl | cons x t ih=>simp[ih]
theorem flat_pg{ps:List Ah}:(ps.map (Us u)).flatMap Ah.cells=ps.flatMap Ah.cells:=by
 induction ps with
 | nil=>rfl
 | cons x t ih =>
  rw[List.map_cons,List.flatMap_cons,List.flatMap_cons,ih]
  congr 1
  show[_,_,_,_,_,_,Value.slice _ (List.map _ _).length _,_]=_
  rw[List.length_map];rfl
structure WG(n:Nat)(c:Af)(M:RM)(c2:Af)(M2:RM)(l:List Ch):Prop where
 num:TL c2
 lim:UE c2
 room:Kr c2 M2
 ca:Af.arr (RG c2 M2)=Af.arr (RG c M)
 ra:Ih.arr (Uc c2 M2)=Ih.arr (Uc c M)
 ps:Qo n c2 M2=l
theorem cur0{n:Nat}(hN:TL c)(hl:UE c)(h:Kr c M):WG n c M c M (Qo n c M):=⟨hN,hl,h,rfl,rfl,rfl⟩
theorem cur1{n:Nat}(hN:TL c)(hl:UE c)(h:Kr c M)(hu:Fb .i64 u)(hp:U2 u c M.rs c.Aa.xs.length rs):WG n c M (IG u c) (pgM u rs M) [AV n 77 3 Aw.cells (.slice M.aH (wid GY c.Ac.xs).length M.cH) (wid GY c.Ac.xs),AV n 57 1 (fun x:Sl Am=>[Sl.val x]) (.slice M.aC (M.cs++M.sp).length M.cC) (M.cs++M.sp),AV n 57 1 (fun x:Sl Am=>[Sl.val x]) (.slice M.aW M.ws.length M.cW) M.ws,AA n 73 3 Am.cells M.ws,AA n 73 3 Am.cells M.sp,AV n 52 8 Ah.cells (.slice M.aP (M.ps++BL Gj 12).length M.cP) (M.ps++BL Gj 12),AV n 49 1 (fun x:Sl Ar=>[Sl.val x]) (.slice M.aR M.rs.length M.cR) M.rs,AA n 54 4 Ar.cells rs,AV n 50 1 (fun x:Sl AC=>[Sl.val x]) (.slice M.aQ M.qs.length M.cQ) M.qs,AA n 75 2 AC.cells M.qs]:=by
 refine⟨pg_num hN hu,pg_lim hl,pg_room h hp, ?_, ?_, ?_⟩
 ·simp only[RG,pgM,IG,Af.arr,List.length_map]
 ·simp only[Uc,pgM,IG,Ih.arr,List.length_map,List.length_append,hp.len]
 have e1:AV n 49 1 (fun x:Sl Ar=>[Sl.val x]) (.slice M.aR rs.length M.cR) rs=AV n 49 1 (fun x:Sl Ar=>[Sl.val x]) (.slice M.aR M.rs.length M.cR) M.rs:=by
  unfold AV;rw[hp.len,YA,YA,pg_val h hp]
 have e2:AV n 52 8 Ah.cells (.slice M.aP (M.ps.map (Us u)++BL Gj 12).length M.cP) (M.ps.map (Us u)++BL Gj 12)=AV n 52 8 Ah.cells (.slice M.aP (M.ps++BL Gj 12).length M.cP) (M.ps++BL Gj 12):=by
  unfold AV
  rw[List.flatMap_append,List.flatMap_append,flat_pg]
  simp only[List.length_append,List.length_map]
 rw[show Qo n (IG u c) (pgM u rs M)=[AV n 77 3 Aw.cells (.slice M.aH (wid GY c.Ac.xs).length M.cH) (wid GY c.Ac.xs),AV n 57 1 (fun x:Sl Am=>[Sl.val x]) (.slice M.aC (M.cs++M.sp).length M.cC) (M.cs++M.sp),AV n 57 1 (fun x:Sl Am=>[Sl.val x]) (.slice M.aW M.ws.length M.cW) M.ws,AA n 73 3 Am.cells M.ws,AA n 73 3 Am.cells M.sp,AV n 52 8 Ah.cells (.slice M.aP (M.ps.map (Us u)++BL Gj 12).length M.cP) (M.ps.map (Us u)++BL Gj 12),AV n 49 1 (fun x:Sl Ar=>[Sl.val x]) (.slice M.aR rs.length M.cR) rs,AA n 54 4 Ar.cells rs,AV n 50 1 (fun x:Sl AC=>[Sl.val x]) (.slice M.aQ M.qs.length M.cQ) M.qs,AA n 75 2 AC.cells M.qs]from rfl,e1,e2]
end
def OV(c:Af)(L:Bj):Prop:=(BZ c=true∧Lm c L)∨(¬ BZ c=true∧L=TK)
theorem OV.same{c:Af}{a b:Bj}(ha:OV c a)(hb:OV c b):XQ a b:=by
 rcases ha with⟨h1,ha⟩ | ⟨h1,rfl⟩ <;> rcases hb with⟨h2,hb⟩ | ⟨h2,rfl⟩
 ·exact same_of ha hb
 ·exact absurd h1 h2
 ·exact absurd h2 h1
 exact same_no
theorem OV.ok{c:Af}{n:Nat}{W:World}{L:Bj}(h:OV c L)(ho:Og n W L):Bj.ok (New n) W L:=by
 rcases h with⟨h1,hI⟩ | ⟨-,rfl⟩
 ·exact Ye (MW h1) hI ho
 exact noLay_ok
theorem Yb(n:Nat)(w:World):Og n w TK:=by
 have h0:Sat ⟨w,w.heap.size,[]⟩ w:=⟨rfl,rfl,rfl,rfl,by simp,by simp,by simp,by simp⟩
 have h1:=(h0.row n 69 5).row n 62 5
 have h2:=h1.more (AA n 71 3 AL.cells []) ⟨by simp,List.Pairwise.nil⟩ (NS _ _ _ _ _) (by rintro b ⟨s,hs, -⟩;cases hs)
 have h3:=h2.more (AA n 3 1 (fun x:Int=>[i6 x]) []) ⟨by simp,List.Pairwise.nil⟩ (NS _ _ _ _ _) (by rintro b ⟨s,hs, -⟩;cases hs)
 exact⟨w,h3⟩
theorem of_any(w:World)(c:Af)(hc:Af.ok Any w c):Calls Try.prog 11 #[.agg (Af.arr c)] w fun e w'=>∃ L:Bj,e = .returned (.tuple #[.agg (Bj.arr L),.int .i64 (errOf c)])∧OV c L∧Og w.heap.size w' L∧BN (fun _=>False) w w':=by
 by_cases h:BZ c=true
 ·refine(Y6 w c hc h).mono ?_
  rintro e w' ⟨L,rfl,hI, -,hO,hk⟩
  exact⟨L,by unfold errOf;rw[if_pos h],.inl ⟨h,hI⟩,hO,hk⟩
 refine(Zp w c hc (Bool.eq_false_iff.2 h)).mono ?_
 rintro e w' ⟨rfl,hk⟩
 exact⟨TK,by unfold errOf;rw[if_neg h];rfl,.inr ⟨h,rfl⟩,Yb _ _,hk⟩
theorem Zb(w:World)(c:Af)(hc:Af.ok Any w c):Calls Try.prog 5 #[.agg (Af.arr c)] w fun e w'=>∃ L:Bj,e = .returned (.tuple #[.agg (Bj.arr L),.int .i64 (errOf c)])∧OV c L∧Og w.heap.size w' L∧BN (fun _=>False) w w':=by
 by_cases h:BZ c=true
 ·refine(Zg w c hc h).mono ?_
  rintro e w' ⟨L,rfl,hI, -,hO,hk⟩
  exact⟨L,by unfold errOf;rw[if_pos h],.inl ⟨h,hI⟩,hO,hk⟩
 refine(rof_no w c hc (Bool.eq_false_iff.2 h)).mono ?_
 rintro e w' ⟨rfl,hk⟩
 exact⟨TK,by unfold errOf;rw[if_neg h];rfl,.inr ⟨h,rfl⟩,Yb _ _,hk⟩
section
variable {n m:Nat}{W w0:World}{c c2:Af}{M M2:RM}{l:List Ch}
theorem YY(h:WG n c M c2 M2 l)(hs:Sat ⟨w0,m,l⟩ W):Af.ok (New n) W (RG c2 M2)∧Ih.ok (New n) W (Uc c2 M2):=room_ok h.num h.lim h.room (by rw[h.ps];exact hs)
theorem Rx(h:WG n c M c2 M2 l)(hs:Sat ⟨w0,m,l⟩ W):Af.ok Any W (RG c2 M2):=(YY h hs).1.ext (Ext.refl _ _) (fun _ _=>trivial)
theorem Wy(h:WG n c M c2 M2 l)(hs:Sat ⟨w0,m,l⟩ W)(a:Int)(ha:Fb .i64 a):Calls Try.prog 9 #[.agg (Af.arr (RG c M)),.int .i64 a] W fun e w'=>e = .returned (.tuple #[.agg (A7.arr (IV c2 a)),.int .i64 (KN c2 a)])∧BN (fun _=>False) W w':=by
 have:=YX W _ a ha (Rx h hs)
 rw[h.ca,XE (JR h.room),XB (JR h.room)]at this
 exact this
theorem Xt(h:WG n c M c2 M2 l)(hs:Sat ⟨w0,m,l⟩ W):Calls Try.prog 10 #[.agg (Af.arr (RG c M))] W fun e w'=>e = .returned (.tuple #[.int .i64 (Gi c2),.int .i64 (errOf c2)])∧BN (fun _=>False) W w':=by
 have:=ZA W _ (Rx h hs)
 rw[h.ca,Xy (JR h.room),TU (JR h.room)]at this
 exact this
theorem OV.of{c d:Af}(h:strip d=strip c){L:Bj}(hl:OV d L):OV c L:=by
 rcases hl with⟨h1,h2⟩ | ⟨h1,h2⟩
 ·exact .inl ⟨(Zm h) ▸ h1,Zx h h2⟩
 exact .inr ⟨fun x=>h1 ((Zm h).trans x),h2⟩
theorem YZ(h:WG n c M c2 M2 l)(hs:Sat ⟨w0,m,l⟩ W):Calls Try.prog 11 #[.agg (Af.arr (RG c M))] W fun e w'=>∃ L:Bj,e = .returned (.tuple #[.agg (Bj.arr L),.int .i64 (errOf c2)])∧OV c2 L∧Og W.heap.size w' L∧BN (fun _=>False) W w':=by
 have:=of_any W _ (Rx h hs)
 rw[h.ca,TU (JR h.room)]at this
 refine this.mono ?_
 rintro e w' ⟨L,h1,h2,h3,h4⟩
 exact⟨L,h1,h2.of (JR h.room),h3,h4⟩
theorem leaf_copy(h:WG n c M c2 M2 l)(hs:Sat ⟨w0,m,l⟩ W):Calls Try.prog 14 #[.agg (Af.arr (RG c M))] W fun e w'=>∃ d:Af,e = .returned (.agg (Af.arr d))∧strip d=strip c2∧Af.ok (New m) w' d∧BN (fun _=>False) W w':=by
 have:=Yu W _ (Rx h hs) (lim_of h.lim (JR h.room))
 rw[h.ca]at this
 refine this.mono ?_
 rintro e w' ⟨d,he,h1,h2,h3⟩
 have hz:W.heap.size=m:=hs.size
 rw[←hz]
 exact⟨d,he,h1.trans (JR h.room),own_ok (Rx h hs) h1 h2,h3⟩
theorem X4(h:WG n c M c2 M2 l)(hs:Sat ⟨w0,m,l⟩ W)(d:Af)(hd:Af.ok Any W d)(hx:strip d=strip c2):Calls Try.prog 13 #[.agg (Af.arr (RG c M)),.agg (Ih.arr (Uc c M)),.agg (Af.arr d)] W fun e w'=>e = .returned (.bool true)∧BN (fun _=>False) W w':=by
 have hk:=YY h hs
 have:=Zt W d _ _ (hk.1.ext (Ext.refl _ _) (fun _ _=>trivial)) (hk.2.ext (Ext.refl _ _) (fun _ _=>trivial)) hd (by rw[←mkR_same hx];exact room_is (ZO hx h.room)) ((JR h.room).trans hx.symm)
 rw[h.ca,h.ra]at this
 exact this
end
section
variable (z:Nat)(c:Af)
abbrev Rw:=bk z (Af.arr c) 26
abbrev QI:=(51,Ad c.Aa.xs.length)
abbrev U8:=(28,Ad c.Az.xs.length)
end
theorem ZC(w:World)(c:Af)(hc:Af.ok Any w c):Calls Try.prog 4 #[.agg (Af.arr c)] w fun e w'=>∃ b:Bool,e = .returned (.bool b)∧(b=false→UE c)∧BN (fun _=>False) w w':=by
 obtain⟨z,hz⟩:∃ z,z=w.heap.size:=⟨_,rfl⟩
 refine BV (args:=[.agg (Af.arr c)]) 86 ⟨w,z,[(Ak w)]⟩ Try.func4 rfl (by kernel_rfl) (by kernel_rfl) (Fv hz) ?_
 have hb1:=hc.Az.1.len;have hb2:=hc.Aa.1.len;have hb3:=hc.Ac.1.len
 refine Eb [0] [(0,.agg (Af.arr c))] ?_
 refine q_c 10 0 [] [[o0,o0],[o0]] [] [(1,pt z),(3,i6 2147483647)] ⟨w,z+1,[(Ak w),(Rw z c)]⟩ rfl Ae ?_
 by_cases h1:(2147483647:Int)<(c.Az.xs.length:Int)
 ·refine A8 9 0 [1] [[o0,(a1 1),o0,o0,oT,o0,o0,o0,o0],[o0]] [Qb z,BT ((c.Az.xs.length:Int) > 2147483647)] [(2,.bool true)] rfl ⟨rfl,bt,Ae⟩ ?_
  refine AZ [] [] (.bool true) Ae ?_
  intro w2 hw2
  exact⟨true,rfl,fun h=>absurd h (by decide),Bg hw2⟩
 by_cases h3:(2147483647:Int)<(c.Aa.xs.length:Int)
 ·refine A8 9 0 [1] [[o0,(a1 1),o0,o0,oF,o0,o0,(a1 1),o0,o0,oT,o0,o0,o0],[o0]] [Qb z,BF ((c.Az.xs.length:Int) > 2147483647),Qb z,BT ((c.Aa.xs.length:Int) > 2147483647)] [(2,.bool true)] rfl ⟨rfl,bf,rfl,bt,Ae⟩ ?_
  refine AZ [] [] (.bool true) Ae ?_
  intro w4 hw4
  exact⟨true,rfl,fun h=>absurd h (by decide),Bg hw4⟩
 by_cases h5:(2147483647:Int)<(c.Ac.xs.length:Int)
 ·refine A8 9 0 [1] [[o0,(a1 1),o0,o0,oF,o0,o0,(a1 1),o0,o0,oF,o0,o0,o0,(a1 1),o0,o0,oT,o0],[o0]] [Qb z,BF ((c.Az.xs.length:Int) > 2147483647),Qb z,BF ((c.Aa.xs.length:Int) > 2147483647),Qb z,BT ((c.Ac.xs.length:Int) > 2147483647)] [(2,.bool true)] rfl ⟨rfl,bf,rfl,bf,rfl,bt,Ae⟩ ?_
  refine AZ [] [] (.bool true) Ae ?_
  intro w6 hw6
  exact⟨true,rfl,fun h=>absurd h (by decide),Bg hw6⟩
 refine A8 12 0 [0] [[o0,(a1 1),o0,o0,oF,o0,o0,(a1 1),o0,o0,oF,o0,o0,o0,(a1 1),o0,o0,oF,o0],[o0,(a1 1),o0,o0]] [Qb z,BF ((c.Az.xs.length:Int) > 2147483647),Qb z,BF ((c.Aa.xs.length:Int) > 2147483647),Qb z,BF ((c.Ac.xs.length:Int) > 2147483647),Qb z] [(1,pt z),(3,i6 2147483647),(U8 c),(29,i6 0)] rfl ⟨rfl,bf,rfl,bf,rfl,bf,rfl,Ae⟩ ?_
 refine Ce (fun m a w'=>∃ (n8:Nat) (i:Nat) (lf:Int),m=c.Az.xs.length - i∧z+1≤n8∧(i≤c.Az.xs.length)∧(0≤lf∧lf≤2147483647)∧(∀ q,q<i→(gd c.Az.xs q).xs.length≤2147483647)∧St 86 [(1,pt z),(3,i6 lf),(U8 c),(29,Ad i)] [] ⟨w,n8,[(Ak w),(Rw z c)]⟩ a w') (c.Az.xs.length - 0) ?_ ?_
 ·intro a w' hs;exact⟨(z+1),0,2147483647,rfl,Nat.le_refl _,Nat.zero_le _,by omega,fun q hq=>absurd hq (Nat.not_lt_zero q),hs⟩
 rintro m a w' ⟨n8,i,lf,rfl,hn7,hki,hlf,hv1,hs⟩
 refine(?_:G Try.prog 86 [(1,pt z),(3,i6 lf),(U8 c),(29,Ad i)] [] ⟨w,n8,[(Ak w),(Rw z c)]⟩ _ _ _) a w' hs
 clear hs a w'
 refine CP ?_
 by_cases h9:(i:Int)<(c.Az.xs.length:Int)
 ·refine A8 15 0 [1] [[oT],[o0,o0]] [BT ((i:Int)<(c.Az.xs.length:Int))] [(1,pt z),(3,i6 lf),(U8 c),(29,Ad i),(4,Ad i)] rfl ⟨bt,Ae⟩ ?_
  obtain⟨b10,o11,ha12,hF14,hc13⟩:=(hc.Az).1.all (show 0<c.Az.xs.length by omega)
  replace ha12:c.Az.a=some ⟨b10,o11,none⟩:=ha12
  have hc15:=hc13 i (show i<c.Az.xs.length by omega)
  have he16:=(hc.Az).2 i (show i<c.Az.xs.length by omega)
  obtain⟨y17,hy17⟩:∃ y_,y_=gd c.Az.xs i:=⟨_,rfl⟩
  rw[←hy17]at he16 hc15
  have hyl:=he16.1.len
  by_cases h18:(lf:Int)<(y17.xs.length:Int)
  ·refine A8 9 0 [1] [[o0,(Du 1 b10 o11 c.Az),o0,(oi i),(oa [.via 0 (.slice y17.a y17.xs.length y17.cap)]),o0,o0,oT],[o0]] [Qb z,Df b10 o11 c.Az,BI i,i<c.Az.xs.length,Bq,Old w b10 (o11+i) (.slice y17.a y17.xs.length y17.cap),BT ((y17.xs.length:Int) > lf)] [(2,.bool true)] rfl ⟨rfl,Dh ha12,rfl,(by omega),rfl,BA (hc15 0 _ rfl),bt,Ae⟩ ?_
   refine AZ [] [] (.bool true) Ae ?_
   intro w19 hw19
   exact⟨true,rfl,fun h=>absurd h (by decide),Bg hw19⟩
  refine A8 12 0 [0] [[o0,(Du 1 b10 o11 c.Az),o0,(oi i),(oa [.via 0 (.slice y17.a y17.xs.length y17.cap)]),o0,o0,oF],[o0,o0,(Du 1 b10 o11 c.Az),o0,(oi i),(oa [.via 0 (.slice y17.a y17.xs.length y17.cap)]),o0,(ov (i6 (lf - (y17.xs.length:Int)))),o0],[(ov (i6 ((i+1:Nat):Int))),o0]] [Qb z,Df b10 o11 c.Az,BI i,i<c.Az.xs.length,Bq,Old w b10 (o11+i) (.slice y17.a y17.xs.length y17.cap),BF ((y17.xs.length:Int) > lf),Qb z,Df b10 o11 c.Az,BI i,i<c.Az.xs.length,Bq,Old w b10 (o11+i) (.slice y17.a y17.xs.length y17.cap),Wr ((lf:Int) - (y17.xs.length:Int)) (lf - (y17.xs.length:Int)),Wr ((i:Int)+1) (((i+1:Nat):Int))] [(1,pt z),(3,i6 (lf - (y17.xs.length:Int))),(U8 c),(29,i6 ((i+1:Nat):Int))] rfl ⟨rfl,Dh ha12,rfl,(by omega),rfl,BA (hc15 0 _ rfl),bf,rfl,Dh ha12,rfl,(by omega),rfl,BA (hc15 0 _ rfl),Be,Be,Ae⟩ ?_
  refine Bz (fun a w' hs=>⟨c.Az.xs.length - (i+1),by omega,n8,(i+1),(lf - (y17.xs.length:Int)),rfl,by omega,by omega,by omega,fun q hq=>if e:q=i then(by rw[e,←hy17];omega)else hv1 q (by omega),hs⟩)
 refine A8 16 0 [0] [[oF],[o0,(a1 1),o0,o0]] [BF ((i:Int)<(c.Az.xs.length:Int)),Qb z] [(1,pt z),(3,i6 lf),(QI c),(52,i6 0)] rfl ⟨bf,rfl,Ae⟩ ?_
 refine Ce (fun m a w'=>∃ (n21:Nat) (p:Nat) (lg:Int),m=c.Aa.xs.length - p∧n8≤n21∧(p≤c.Aa.xs.length)∧(0≤lg∧lg≤2147483647)∧(∀ q,q<p→(gd c.Aa.xs q).Ag.xs.length≤2147483647∧(gd c.Aa.xs q).Ai.xs.length≤2147483647)∧St 86 [(1,pt z),(3,i6 lg),(QI c),(52,Ad p)] [] ⟨w,n21,[(Ak w),(Rw z c)]⟩ a w') (c.Aa.xs.length - 0) ?_ ?_
 ·intro a w' hs;exact⟨n8,0,lf,rfl,Nat.le_refl _,Nat.zero_le _,by omega,fun q hq=>absurd hq (Nat.not_lt_zero q),hs⟩
 rintro m a w' ⟨n21,p,lg,rfl,hn20,hkp,hlg,hv2,hs⟩
 refine(?_:G Try.prog 86 [(1,pt z),(3,i6 lg),(QI c),(52,Ad p)] [] ⟨w,n21,[(Ak w),(Rw z c)]⟩ _ _ _) a w' hs
 clear hs a w'
 refine CP ?_
 by_cases h22:(p:Int)<(c.Aa.xs.length:Int)
 ·refine A8 14 0 [1] [[oT],[o0,o0]] [BT ((p:Int)<(c.Aa.xs.length:Int))] [(1,pt z),(3,i6 lg),(QI c),(52,Ad p),(5,Ad p)] rfl ⟨bt,Ae⟩ ?_
  obtain⟨b23,o24,ha25,hF27,hc26⟩:=(hc.Aa).1.all (show 0<c.Aa.xs.length by omega)
  replace ha25:c.Aa.a=some ⟨b23,o24,none⟩:=ha25
  have hc28:=hc26 p (show p<c.Aa.xs.length by omega)
  have he29:=(hc.Aa).2 p (show p<c.Aa.xs.length by omega)
  obtain⟨y30,hy30⟩:∃ y_,y_=gd c.Aa.xs p:=⟨_,rfl⟩
  rw[←hy30]at he29 hc28
  have hyr:=he29.Ag.1.len;have hyq:=he29.Ai.1.len
  refine q_c 5 0 [] [[o0,(Du 1 b23 o24 c.Aa),o0,(oi p),(ol 0 (Ah.arr y30)),o0,(an 8 2)]] [Qb z,Df b23 o24 c.Aa,BI p,p<c.Aa.xs.length,Bq,Eh w b23 (o24+p*8) (Ah.arr y30),Qb n21,Qb n21,Qb n21,Qb n21,Qb n21,Qb n21,Qb n21,Qb n21] [(1,pt z),(3,i6 lg),(QI c),(52,Ad p),(6,pt n21)] ⟨w,n21+1,[(Ak w),(Rw z c),(bk n21 (Ah.arr y30) 52)]⟩ rfl ⟨rfl,Dh ha25,rfl,(by omega),rfl,CB hc28,rfl,rfl,rfl,rfl,rfl,rfl,rfl,rfl,Ae⟩ ?_
  by_cases h31:(lg:Int)<(y30.Ag.xs.length:Int)
  ·refine A8 9 0 [1] [[o0,(a1 2),o0,o0,oT,o0,o0],[o0]] [Qb n21,BT ((y30.Ag.xs.length:Int) > lg)] [(2,.bool true)] rfl ⟨rfl,bt,Ae⟩ ?_
   refine AZ [] [] (.bool true) Ae ?_
   intro w32 hw32
   exact⟨true,rfl,fun h=>absurd h (by decide),Bg hw32⟩
  by_cases h33:(lg - (y30.Ag.xs.length:Int):Int)<(y30.Ai.xs.length:Int)
  ·refine A8 9 0 [1] [[o0,(a1 2),o0,o0,oF,o0,o0,(a1 2),o0,o0,o0,(a1 2),o0,(ov (i6 (lg - (y30.Ag.xs.length:Int)))),oT,o0],[o0]] [Qb n21,BF ((y30.Ag.xs.length:Int) > lg),Qb n21,Qb n21,Wr ((lg:Int) - (y30.Ag.xs.length:Int)) (lg - (y30.Ag.xs.length:Int)),BT ((y30.Ai.xs.length:Int) > (lg - (y30.Ag.xs.length:Int)))] [(2,.bool true)] rfl ⟨rfl,bf,rfl,rfl,Be,bt,Ae⟩ ?_
   refine AZ [] [] (.bool true) Ae ?_
   intro w34 hw34
   exact⟨true,rfl,fun h=>absurd h (by decide),Bg hw34⟩
  refine A8 12 0 [0] [[o0,(a1 2),o0,o0,oF,o0,o0,(a1 2),o0,o0,o0,(a1 2),o0,(ov (i6 (lg - (y30.Ag.xs.length:Int)))),oF,o0],[o0,o0,(a1 2),o0,o0,(a1 2),o0,(ov (i6 ((y30.Ag.xs.length+y30.Ai.xs.length:Nat):Int))),(ov (i6 (lg - ((y30.Ag.xs.length+y30.Ai.xs.length:Nat):Int)))),o0],[(ov (i6 ((p+1:Nat):Int))),o0]] [Qb n21,BF ((y30.Ag.xs.length:Int) > lg),Qb n21,Qb n21,Wr ((lg:Int) - (y30.Ag.xs.length:Int)) (lg - (y30.Ag.xs.length:Int)),BF ((y30.Ai.xs.length:Int) > (lg - (y30.Ag.xs.length:Int))),Qb n21,Qb n21,Wr ((y30.Ag.xs.length:Int)+(y30.Ai.xs.length:Int)) (((y30.Ag.xs.length+y30.Ai.xs.length:Nat):Int)),Wr ((lg:Int) - ((y30.Ag.xs.length+y30.Ai.xs.length:Nat):Int)) (lg - ((y30.Ag.xs.length+y30.Ai.xs.length:Nat):Int)),Wr ((p:Int)+1) (((p+1:Nat):Int))] [(1,pt z),(3,i6 (lg - ((y30.Ag.xs.length+y30.Ai.xs.length:Nat):Int))),(QI c),(52,i6 ((p+1:Nat):Int))] rfl ⟨rfl,bf,rfl,rfl,Be,bf,rfl,rfl,Be,Be,Be,Ae⟩ ?_
  refine BO [0,1] [(Ak w),(Rw z c)] rfl rfl ?_
  refine Dp [1,3,51,52] [(1,pt z),(3,i6 (lg - ((y30.Ag.xs.length+y30.Ai.xs.length:Nat):Int))),(QI c),(52,i6 ((p+1:Nat):Int))] ?_
  refine Bz (fun a w' hs=>⟨c.Aa.xs.length - (p+1),by omega,(n21+1),(p+1),(lg - ((y30.Ag.xs.length+y30.Ai.xs.length:Nat):Int)),rfl,by omega,by omega,by omega,fun q hq=>if e:q=p then(by rw[e,←hy30];omega)else hv2 q (by omega),hs⟩)
 refine A8 15 0 [0] [[oF],[o0]] [BF ((p:Int)<(c.Aa.xs.length:Int))] [(2,.bool false)] rfl ⟨bf,Ae⟩ ?_
 refine AZ [] [] (.bool false) Ae ?_
 intro w35 hw35
 exact⟨false,rfl,fun _=>⟨by omega,by omega,by omega,fun q hq=>hv1 q (by omega),fun q hq=>(hv2 q (by omega)).1,fun q hq=>(hv2 q (by omega)).2⟩,Bg hw35⟩
section
variable (w12:World)(aC:Option Addr)(cs:List (Sl Am))(sp:List (Sl Am))(cC:Nat)(aW:Option Addr)(ws:List (Sl Am))(cW b30:Nat)(ps:List (Ah))(cP:Nat)(aR:Option Addr)(rs:List (Sl Ar))(cR:Nat)(aQ:Option Addr)(qs:List (Sl AC))(cQ:Nat)(aH:Option Addr)(c:Af)(cH n28:Nat)(y:Ah)(aX:Option Addr)(cX i:Nat)(aP:Option Addr)(w47:World)(page:Int)(lw4:Bj)(w15 w7 w21:World)(lw21:Bj)(w44:World)(lw44:Bj)(w4 w41:World)(d2:Af)(z:Nat)(w10:World)(rsG:List (Sl Ar))
abbrev Qe:=bk (w12.heap.size+1) #[.slice aC ((cs++sp).length) cC,.slice aW ws.length cW,.slice (some ⟨b30,0,none⟩) ((ps++BL Gj 12).length) cP,.slice aR rs.length cR,.slice aQ qs.length cQ,.slice aH ((wid GY c.Ac.xs).length) cH] 44
abbrev Rh:=bk n28 #[.string y.Name,i6 y.Entry,i6 y.Ef,i6 y.Dl,i6 y.Eg,i6 y.DD,.slice aX y.Ag.xs.length (cX - 0),.slice ((gd qs i).a) y.Ai.xs.length ((gd qs i).cap - 0)] 52
abbrev Ls:=bk (w12.heap.size+1) #[.slice aC ((cs++sp).length) cC,.slice aW ws.length cW,.slice aP ((ps++BL Gj 12).length) cP,.slice aR rs.length cR,.slice aQ qs.length cQ,.slice aH ((wid GY c.Ac.xs).length) cH] 44
abbrev PS:Ch:= .blk w12.heap.size (.cells #[i6 c.Frames,i6 c.Dz,i6 c.Kernel,i6 c.Room,.slice aC cs.length (cC - 0),.slice (some ⟨b30,0,none⟩) ps.length (cP - 0),.slice aH c.Ac.xs.length (cH - 0)] 26 (0,0)) true
abbrev LV:Ch:= .blk w12.heap.size (.cells #[i6 c.Frames,i6 c.Dz,i6 c.Kernel,i6 c.Room,.slice aC cs.length (cC - 0),.slice aP ps.length (cP - 0),.slice aH c.Ac.xs.length (cH - 0)] 26 (0,0)) true
abbrev Y7:Ch:= .blk w47.heap.size (.cells (A7.arr (IV (IG page c) (IntKind.i64.wrap ((IntKind.i64.wrap (16*lw4.End)) - 1)))) 36 (0,0)) true
abbrev JI:Ch:= .blk w15.heap.size (.cells (A7.arr (IV c (IntKind.i64.wrap ((IntKind.i64.wrap (16*lw4.End)) - 1)))) 36 (0,0)) true
abbrev II:Ch:= .blk w7.heap.size (.cells (A7.arr (IV c (IntKind.i64.wrap ((IntKind.i64.wrap (16*lw4.End)) - 1)))) 36 (0,0)) true
abbrev JB:Ch:= .blk w21.heap.size (.cells (Bj.arr lw21) 31 (0,0)) true
abbrev VH:Ch:= .blk w44.heap.size (.cells (Bj.arr lw44) 31 (0,0)) true
abbrev G7:Ch:= .blk w4.heap.size (.cells (Bj.arr lw4) 31 (0,0)) true
abbrev TI:Ch:= .blk w41.heap.size (.cells (Af.arr d2) 26 (0,0)) true
abbrev Gn:=bk z (Af.arr c) 26
abbrev Jg:=AV w10.heap.size 52 8 Ah.cells (.slice (some ⟨b30,0,none⟩) ((ps++BL Gj 12).length) cP) (ps++BL Gj 12)
abbrev Ig:=AV w10.heap.size 77 3 Aw.cells (.slice aH ((wid GY c.Ac.xs).length) cH) (wid GY c.Ac.xs)
abbrev H8:=AV w10.heap.size 57 1 (fun x:Sl Am=>[Sl.val x]) (.slice aC ((cs++sp).length) cC) (cs++sp)
abbrev JY:=AV w10.heap.size 52 8 Ah.cells (.slice aP ((ps++BL Gj 12).length) cP) (ps++BL Gj 12)
abbrev Ie:=AV w10.heap.size 57 1 (fun x:Sl Am=>[Sl.val x]) (.slice aW ws.length cW) ws
abbrev HY:=AV w10.heap.size 49 1 (fun x:Sl Ar=>[Sl.val x]) (.slice aR rs.length cR) rs
abbrev Ic:=AV w10.heap.size 50 1 (fun x:Sl AC=>[Sl.val x]) (.slice aQ qs.length cQ) qs
abbrev Qy:=AA w10.heap.size 54 4 Ar.cells (rsG.eraseIdx i)
abbrev TF:=(26,i6 (KN (IG page c) (IntKind.i64.wrap ((IntKind.i64.wrap (16*lw4.End)) - 1))))
abbrev WL:=(14,i6 (KN (IG page c) (IntKind.i64.wrap ((IntKind.i64.wrap (16*lw4.End)) - 1))))
abbrev Xm:=(14,i6 (KN c (IntKind.i64.wrap ((IntKind.i64.wrap (16*lw4.End)) - 1))))
abbrev Qv:=(8,i6 (KN c (IntKind.i64.wrap ((IntKind.i64.wrap (16*lw4.End)) - 1))))
abbrev O0:=(125,Ad y.Ag.xs.length)
abbrev EY:=(12,pt (w12.heap.size+1))
abbrev EX:=(11,pt w12.heap.size)
abbrev Fj:=(13,pt w15.heap.size)
abbrev P8:=(22,pt w41.heap.size)
abbrev TE:=(23,pt w44.heap.size)
abbrev SS:=(25,pt w47.heap.size)
abbrev Fg:=(5,pt w4.heap.size)
abbrev QE:=(7,pt w7.heap.size)
abbrev Jv:=(114,Ad ps.length)
abbrev O5:=(20,pt n28)
end
theorem fresh_calls(w:World)(c:Af)(hc:Af.ok Any w c)(page:Int)(hpage:Fb .i64 page):Calls Try.prog 3 #[.agg (Af.arr c),.int .i64 page] w fun e w'=>e = .returned (.bool true)∧BN (fun _=>False) w w':=by
 obtain⟨z,hz⟩:∃ z,z=w.heap.size:=⟨_,rfl⟩
 refine BV (args:=[.agg (Af.arr c),i6 page]) 211 ⟨w,z,[(Ak w)]⟩ Try.func3 rfl (by kernel_rfl) (by kernel_rfl) (Fv hz) ?_
 have hpl:=hc.Aa.1.len;have hpc:=hc.Az.1.len
 refine Eb [0,1] [(0,.agg (Af.arr c)),(1,i6 page)] ?_
 refine q_c 7 1 [] [[o0,o0],[(an 7 1)]] [Qb z,Qb z,Qb z,Qb z,Qb z,Qb z,Qb z] [(1,i6 page),(2,pt z),(31,.agg (Af.arr c))] ⟨w,z+1,[(Ak w),(Gn c z)]⟩ rfl ⟨rfl,rfl,rfl,rfl,rfl,rfl,rfl,Ae⟩ ?_
 refine l_call [] [] 4 #[.agg (Af.arr c)] (some 32) Ae ?_
 intro w1 hw1
 refine(ZC w1 c (hc.ext (hw1.ext rfl) (fun _ h=>h))).mono ?_
 rintro e w2 ⟨bV,rfl,hV,hkw2⟩
 have hnw2:z+1≤w2.heap.size:=Dx hw1 hkw2
 cases bV
 ·have hLim:=hV rfl;have hl1:=hLim.cl;have hl2:=hLim.pl;have hl3:=hLim.hl
  refine⟨_,_,rfl,hw1.keeps hkw2, ?_⟩
  refine Di 7 1 [0] [[],[(an 7 1)]] [Qb z,Qb z,Qb z,Qb z,Qb z,Qb z,Qb z] [(1,i6 page),(2,pt z),(34,.agg (Af.arr c))] rfl ⟨rfl,rfl,rfl,rfl,rfl,rfl,rfl,Ae⟩ ?_
  refine l_call [] [] 5 #[.agg (Af.arr c)] (some 35) Ae ?_
  intro w3 hw3
  refine(Zb w3 c (hc.ext (hw3.ext rfl) (fun _ h=>h))).mono ?_
  rintro e w4 ⟨lw4,rfl,hIw4,hOw4,hkw4⟩
  have hnw4:w2.heap.size≤w4.heap.size:=Dx hw3 hkw4
  rw[hw3.size]at hOw4
  have hLw4:=hIw4.ok hOw4
  refine⟨_,_,rfl,hw3.Lc hkw4, ?_⟩
  refine Hu 4 5 [] [[o0,o0,o0,o0,(an 4 3),o0],[(an 7 1),o0,(a1 3),o0,o0]] [Qb w4.heap.size,Qb w4.heap.size,Qb w4.heap.size,Qb w4.heap.size,Qb z,Qb z,Qb z,Qb z,Qb z,Qb z,Qb z,Qb w4.heap.size] [(1,i6 page),(2,pt z),(Fg w4),(6,i6 (errOf c)),(39,.agg (Af.arr c)),(43,i6 (IntKind.i64.wrap ((IntKind.i64.wrap (16*lw4.End)) - 1)))] ⟨w,w4.heap.size+1,[(Ak w),(Gn c z),(mid w2.heap.size w4),(G7 lw4 w4)]⟩ rfl ⟨rfl,rfl,rfl,rfl,rfl,rfl,rfl,rfl,rfl,rfl,rfl,rfl,Ae⟩ ?_
  refine l_call [] [] 6 #[.agg (Af.arr c),i6 (IntKind.i64.wrap ((IntKind.i64.wrap (16*lw4.End)) - 1))] (some 44) Ae ?_
  intro w5 hw5
  refine(U1 w5 c (IntKind.i64.wrap ((IntKind.i64.wrap (16*lw4.End)) - 1)) (TN _) (hc.ext (hw5.ext rfl) (fun _ h=>h))).mono ?_
  rintro e w7 ⟨rfl,hkw7⟩
  have hnw7:w4.heap.size+1≤w7.heap.size:=Dx hw5 hkw7
  refine⟨_,_,rfl,hw5.keeps hkw7, ?_⟩
  refine Hu 4 1 [] [[o0,o0,o0,o0,(an 3 4),o0],[(an 7 1)]] [Qb w7.heap.size,Qb w7.heap.size,Qb w7.heap.size,Qb z,Qb z,Qb z,Qb z,Qb z,Qb z,Qb z] [(1,i6 page),(2,pt z),(Fg w4),(6,i6 (errOf c)),(QE w7),(Qv c lw4),(48,.agg (Af.arr c))] ⟨w,w7.heap.size+1,[(Ak w),(Gn c z),(mid w2.heap.size w4),(G7 lw4 w4),(II c lw4 w7)]⟩ rfl ⟨rfl,rfl,rfl,rfl,rfl,rfl,rfl,rfl,rfl,rfl,Ae⟩ ?_
  refine l_call [] [] 7 #[.agg (Af.arr c)] (some 49) Ae ?_
  intro w8 hw8
  refine(Vp w8 c (hc.ext (hw8.ext rfl) (fun _ h=>h))).mono ?_
  rintro e w10 ⟨rfl,hkw10⟩
  have hnw10:w7.heap.size+1≤w10.heap.size:=Dx hw8 hkw10
  refine⟨_,_,rfl,hw8.keeps hkw10, ?_⟩
  refine Di 4 1 [] [[o0,o0,o0,o0,o0],[(an 7 1)]] [Qb z,Qb z,Qb z,Qb z,Qb z,Qb z,Qb z] [(1,i6 page),(2,pt z),(Fg w4),(6,i6 (errOf c)),(QE w7),(Qv c lw4),(9,i6 (Gi c)),(10,i6 (errOf c)),(53,.agg (Af.arr c))] rfl ⟨rfl,rfl,rfl,rfl,rfl,rfl,rfl,Ae⟩ ?_
  refine l_call [] [] 8 #[.agg (Af.arr c)] (some 54) Ae ?_
  intro w11 hw11
  refine(Y5 w11 c (hc.ext (hw11.ext rfl) (fun _ h=>h)) hLim).mono ?_
  rintro e w12 ⟨⟨aC,cC,cs,sp,aW,cW,ws,aP,cP,ps,aR,cR,rs,aQ,cQ,qs,aH,cH⟩,rfl,hR,hO,hkw12⟩
  rw[hw11.size]at hO;obtain⟨w0O,hO⟩:=hO;obtain⟨hcor,hsp,hprt⟩:=hR
  replace hcor:Vg c c.Az.xs.length cs ws:=hcor;replace hsp:Xb 12 sp:=hsp;replace hprt:UF c c.Aa.xs.length ps rs qs:=hprt
  have hnw12:w10.heap.size≤w12.heap.size:=Dx hw11 hkw12
  have hq1:=hcor.l1;have hq2:=hcor.l2;have hq4:=hprt.l1;have hq5:=hprt.l2;have hq6:=hprt.l3;have hnum:=num_of hc
  have hcur:=cur0 (n:=w10.heap.size) (M:=(⟨aC,cC,cs,sp,aW,cW,ws,aP,cP,ps,aR,cR,rs,aQ,cQ,qs,aH,cH⟩:RM)) hnum hLim ⟨hcor,hsp,hprt⟩
  refine⟨_,_,rfl,hw11.keepsO hkw12 hO (room_new hO), ?_⟩
  refine Hu 4 5 [] [[o0,o0,o0,o0,o0,(an 7 15),(an 6 16)],[(an 7 15),o0,(a1 3),o0,o0]] [Qb w12.heap.size,Qb w12.heap.size,Qb w12.heap.size,Qb w12.heap.size,Qb w12.heap.size,Qb w12.heap.size,Qb w12.heap.size,Qb (w12.heap.size+1),Qb (w12.heap.size+1),Qb (w12.heap.size+1),Qb (w12.heap.size+1),Qb (w12.heap.size+1),Qb (w12.heap.size+1),Qb w12.heap.size,Qb w12.heap.size,Qb w12.heap.size,Qb w12.heap.size,Qb w12.heap.size,Qb w12.heap.size,Qb w12.heap.size,Qb w4.heap.size] [(1,i6 page),(2,pt z),(Fg w4),(6,i6 (errOf c)),(QE w7),(Qv c lw4),(9,i6 (Gi c)),(10,i6 (errOf c)),(EX w12),(EY w12),(58,.agg #[i6 c.Frames,i6 c.Dz,i6 c.Kernel,i6 c.Room,.slice aC cs.length (cC - 0),.slice aP ps.length (cP - 0),.slice aH c.Ac.xs.length (cH - 0)]),(62,i6 (IntKind.i64.wrap ((IntKind.i64.wrap (16*lw4.End)) - 1)))] ⟨w,w12.heap.size+2,[(Ak w),(Gn c z),(mid w2.heap.size w4),(G7 lw4 w4),(II c lw4 w7),(Ig aH c cH w10),(H8 aC cs sp cC w10),(Ie aW ws cW w10),(AA w10.heap.size 73 3 Am.cells ws),(AA w10.heap.size 73 3 Am.cells sp),(JY ps cP aP w10),(HY aR rs cR w10),(AA w10.heap.size 54 4 Ar.cells rs),(Ic aQ qs cQ w10),(AA w10.heap.size 75 2 AC.cells qs),(LV w12 aC cs cC ps cP aH c cH aP),(Ls w12 aC cs sp cC aW ws cW ps cP aR rs cR aQ qs cQ aH c cH aP)]⟩ rfl ⟨rfl,rfl,rfl,rfl,rfl,rfl,rfl,rfl,rfl,rfl,rfl,rfl,rfl,rfl,rfl,rfl,rfl,rfl,rfl,rfl,rfl,Ae⟩ ?_
  refine l_call [] [] 9 #[.agg #[i6 c.Frames,i6 c.Dz,i6 c.Kernel,i6 c.Room,.slice aC cs.length (cC - 0),.slice aP ps.length (cP - 0),.slice aH c.Ac.xs.length (cH - 0)],i6 (IntKind.i64.wrap ((IntKind.i64.wrap (16*lw4.End)) - 1))] (some 63) Ae ?_
  intro w13 hw13
  have hq14:=hw13.pick [5,6,7,8,9,10,11,12,13,14] rfl rfl
  refine(Wy hcur hq14 (IntKind.i64.wrap ((IntKind.i64.wrap (16*lw4.End)) - 1)) (TN _)).mono ?_
  rintro e w15 ⟨rfl,hkw15⟩
  have hnw15:w12.heap.size+2≤w15.heap.size:=Dx hw13 hkw15
  refine⟨_,_,rfl,hw13.keeps hkw15, ?_⟩
  refine Hu 4 1 [] [[o0,o0,o0,o0,(an 3 17),o0],[(an 7 15)]] [Qb w15.heap.size,Qb w15.heap.size,Qb w15.heap.size,Qb w12.heap.size,Qb w12.heap.size,Qb w12.heap.size,Qb w12.heap.size,Qb w12.heap.size,Qb w12.heap.size,Qb w12.heap.size] [(1,i6 page),(2,pt z),(Fg w4),(6,i6 (errOf c)),(QE w7),(Qv c lw4),(9,i6 (Gi c)),(10,i6 (errOf c)),(EX w12),(EY w12),(Fj w15),(Xm c lw4),(67,.agg #[i6 c.Frames,i6 c.Dz,i6 c.Kernel,i6 c.Room,.slice aC cs.length (cC - 0),.slice aP ps.length (cP - 0),.slice aH c.Ac.xs.length (cH - 0)])] ⟨w,w15.heap.size+1,[(Ak w),(Gn c z),(mid w2.heap.size w4),(G7 lw4 w4),(II c lw4 w7),(Ig aH c cH w10),(H8 aC cs sp cC w10),(Ie aW ws cW w10),(AA w10.heap.size 73 3 Am.cells ws),(AA w10.heap.size 73 3 Am.cells sp),(JY ps cP aP w10),(HY aR rs cR w10),(AA w10.heap.size 54 4 Ar.cells rs),(Ic aQ qs cQ w10),(AA w10.heap.size 75 2 AC.cells qs),(LV w12 aC cs cC ps cP aH c cH aP),(Ls w12 aC cs sp cC aW ws cW ps cP aR rs cR aQ qs cQ aH c cH aP),(JI c lw4 w15)]⟩ rfl ⟨rfl,rfl,rfl,rfl,rfl,rfl,rfl,rfl,rfl,rfl,Ae⟩ ?_
  refine l_call [] [] 10 #[.agg #[i6 c.Frames,i6 c.Dz,i6 c.Kernel,i6 c.Room,.slice aC cs.length (cC - 0),.slice aP ps.length (cP - 0),.slice aH c.Ac.xs.length (cH - 0)]] (some 68) Ae ?_
  intro w16 hw16
  have hq17:=hw16.pick [5,6,7,8,9,10,11,12,13,14] rfl rfl
  refine(Xt hcur hq17).mono ?_
  rintro e w18 ⟨rfl,hkw18⟩
  have hnw18:w15.heap.size+1≤w18.heap.size:=Dx hw16 hkw18
  refine⟨_,_,rfl,hw16.keeps hkw18, ?_⟩
  refine Di 4 1 [] [[o0,o0,o0,o0,o0],[(an 7 15)]] [Qb w12.heap.size,Qb w12.heap.size,Qb w12.heap.size,Qb w12.heap.size,Qb w12.heap.size,Qb w12.heap.size,Qb w12.heap.size] [(1,i6 page),(2,pt z),(Fg w4),(6,i6 (errOf c)),(QE w7),(Qv c lw4),(9,i6 (Gi c)),(10,i6 (errOf c)),(EX w12),(EY w12),(Fj w15),(Xm c lw4),(15,i6 (Gi c)),(16,i6 (errOf c)),(72,.agg #[i6 c.Frames,i6 c.Dz,i6 c.Kernel,i6 c.Room,.slice aC cs.length (cC - 0),.slice aP ps.length (cP - 0),.slice aH c.Ac.xs.length (cH - 0)])] rfl ⟨rfl,rfl,rfl,rfl,rfl,rfl,rfl,Ae⟩ ?_
  refine l_call [] [] 11 #[.agg #[i6 c.Frames,i6 c.Dz,i6 c.Kernel,i6 c.Room,.slice aC cs.length (cC - 0),.slice aP ps.length (cP - 0),.slice aH c.Ac.xs.length (cH - 0)]] (some 73) Ae ?_
  intro w19 hw19
  have hq20:=hw19.pick [5,6,7,8,9,10,11,12,13,14] rfl rfl
  refine(YZ hcur hq20).mono ?_
  rintro e w21 ⟨lw21,rfl,hIw21,hOw21,hkw21⟩
  have hnw21:w18.heap.size≤w21.heap.size:=Dx hw19 hkw21
  rw[hw19.size]at hOw21
  have hLw21:=hIw21.ok hOw21
  refine⟨_,_,rfl,hw19.Lc hkw21, ?_⟩
  refine Hu 5 6 [] [[o0,o0,o0,o0,(an 4 19),o0],[o0,o0,oF,o0,(an 4 19),(an 4 3)]] [Qb w21.heap.size,Qb w21.heap.size,Qb w21.heap.size,Qb w21.heap.size,NF (errOf c) (errOf c),Qb w21.heap.size,Qb w21.heap.size,Qb w21.heap.size,Qb w21.heap.size,Qb w4.heap.size,Qb w4.heap.size,Qb w4.heap.size,Qb w4.heap.size] [(1,i6 page),(2,pt z),(Fg w4),(QE w7),(Qv c lw4),(9,i6 (Gi c)),(10,i6 (errOf c)),(EX w12),(EY w12),(Fj w15),(Xm c lw4),(15,i6 (Gi c)),(16,i6 (errOf c)),(79,.bool false),(80,.agg (Bj.arr lw21)),(81,.agg (Bj.arr lw4))] ⟨w,w21.heap.size+1,[(Ak w),(Gn c z),(mid w2.heap.size w4),(G7 lw4 w4),(II c lw4 w7),(Ig aH c cH w10),(H8 aC cs sp cC w10),(Ie aW ws cW w10),(AA w10.heap.size 73 3 Am.cells ws),(AA w10.heap.size 73 3 Am.cells sp),(JY ps cP aP w10),(HY aR rs cR w10),(AA w10.heap.size 54 4 Ar.cells rs),(Ic aQ qs cQ w10),(AA w10.heap.size 75 2 AC.cells qs),(LV w12 aC cs cC ps cP aH c cH aP),(Ls w12 aC cs sp cC aW ws cW ps cP aR rs cR aQ qs cQ aH c cH aP),(JI c lw4 w15),(mid w18.heap.size w21),(JB w21 lw21)]⟩ rfl ⟨rfl,rfl,rfl,rfl,nf,rfl,rfl,rfl,rfl,rfl,rfl,rfl,rfl,Ae⟩ ?_
  refine l_call [] [] 12 #[.agg (Bj.arr lw21),.agg (Bj.arr lw4)] (some 82) Ae ?_
  intro w22 hw22
  refine(WB w22 lw21 lw4 (hLw21.ext (hw22.Ua 18) (fun _ _=>trivial)) (hLw4.ext (hw22.Ua 2) (fun _ _=>trivial)) (hIw21.same hIw4)).mono ?_
  rintro e w23 ⟨rfl,hkw23⟩
  have hnw23:w21.heap.size+1≤w23.heap.size:=Dx hw22 hkw23
  refine⟨_,_,rfl,hw22.keeps hkw23, ?_⟩
  refine Di 0 26 [] [[o0,o0,o0,(an 3 17),(an 3 4),⟨.seq true,none⟩,o0,o0,o0,o0,oF,o0,o0,o0,o0,oF,o0,o0,o0,o0,oF,o0,o0,(an 7 15),(an 6 16),(an 7 1)]] [Qb w15.heap.size,Qb w15.heap.size,Qb w15.heap.size,Qb w7.heap.size,Qb w7.heap.size,Qb w7.heap.size,(((IV c (IntKind.i64.wrap ((IntKind.i64.wrap (16*lw4.End)) - 1))).Kind:Int)==((IV c (IntKind.i64.wrap ((IntKind.i64.wrap (16*lw4.End)) - 1))).Kind:Int)&&(((IV c (IntKind.i64.wrap ((IntKind.i64.wrap (16*lw4.End)) - 1))).Index:Int)==((IV c (IntKind.i64.wrap ((IntKind.i64.wrap (16*lw4.End)) - 1))).Index:Int)&&(((IV c (IntKind.i64.wrap ((IntKind.i64.wrap (16*lw4.End)) - 1))).Port:Int)==((IV c (IntKind.i64.wrap ((IntKind.i64.wrap (16*lw4.End)) - 1))).Port:Int)&&true)))=true,NF (KN c (IntKind.i64.wrap ((IntKind.i64.wrap (16*lw4.End)) - 1))) (KN c (IntKind.i64.wrap ((IntKind.i64.wrap (16*lw4.End)) - 1))),NF (Gi c) (Gi c),NF (errOf c) (errOf c),Qb w12.heap.size,Qb w12.heap.size,Qb w12.heap.size,Qb w12.heap.size,Qb w12.heap.size,Qb w12.heap.size,Qb w12.heap.size,Qb (w12.heap.size+1),Qb (w12.heap.size+1),Qb (w12.heap.size+1),Qb (w12.heap.size+1),Qb (w12.heap.size+1),Qb (w12.heap.size+1),Qb z,Qb z,Qb z,Qb z,Qb z,Qb z,Qb z] [(1,i6 page),(Fg w4),(EX w12),(EY w12),(Fj w15),(105,.bool false),(106,.agg #[i6 c.Frames,i6 c.Dz,i6 c.Kernel,i6 c.Room,.slice aC cs.length (cC - 0),.slice aP ps.length (cP - 0),.slice aH c.Ac.xs.length (cH - 0)]),(107,.agg #[.slice aC ((cs++sp).length) cC,.slice aW ws.length cW,.slice aP ((ps++BL Gj 12).length) cP,.slice aR rs.length cR,.slice aQ qs.length cQ,.slice aH ((wid GY c.Ac.xs).length) cH]),(108,.agg (Af.arr c))] rfl ⟨rfl,rfl,rfl,rfl,rfl,rfl,(by simp),nf,nf,nf,rfl,rfl,rfl,rfl,rfl,rfl,rfl,rfl,rfl,rfl,rfl,rfl,rfl,rfl,rfl,rfl,rfl,rfl,rfl,rfl,Ae⟩ ?_
  refine l_call [] [] 13 #[.agg #[i6 c.Frames,i6 c.Dz,i6 c.Kernel,i6 c.Room,.slice aC cs.length (cC - 0),.slice aP ps.length (cP - 0),.slice aH c.Ac.xs.length (cH - 0)],.agg #[.slice aC ((cs++sp).length) cC,.slice aW ws.length cW,.slice aP ((ps++BL Gj 12).length) cP,.slice aR rs.length cR,.slice aQ qs.length cQ,.slice aH ((wid GY c.Ac.xs).length) cH],.agg (Af.arr c)] (some 109) Ae ?_
  intro w24 hw24
  have hq25:=hw24.pick [5,6,7,8,9,10,11,12,13,14] rfl rfl
  refine(X4 hcur hq25 c (hc.ext (hw24.ext rfl) (fun _ h=>h)) rfl).mono ?_
  rintro e w26 ⟨rfl,hkw26⟩
  have hnw26:w23.heap.size≤w26.heap.size:=Dx hw24 hkw26
  refine⟨_,_,rfl,hw24.keeps hkw26, ?_⟩
  refine Di 11 0 [0] [[o0,o0],[o0,(a1 15),o0,o0]] [Qb w12.heap.size] [(1,i6 page),(Fg w4),(EX w12),(EY w12),(Fj w15),(Jv ps),(115,i6 0)] rfl ⟨rfl,Ae⟩ ?_
  refine Ce (fun m a w'=>∃ (n28:Nat) (i:Nat) (rsG:List (Sl Ar)),m=c.Aa.xs.length - i∧w26.heap.size≤n28∧(i≤c.Aa.xs.length)∧(U2 page c rs i rsG)∧St 211 [(1,i6 page),(Fg w4),(EX w12),(EY w12),(Fj w15),(Jv ps),(115,Ad i)] [] ⟨w,n28,[(Ak w),(Gn c z),(mid w2.heap.size w4),(G7 lw4 w4),(II c lw4 w7),(Ig aH c cH w10),(H8 aC cs sp cC w10),(Ie aW ws cW w10),(AA w10.heap.size 73 3 Am.cells ws),(AA w10.heap.size 73 3 Am.cells sp),(JY ps cP aP w10),(HY aR rs cR w10),(AA w10.heap.size 54 4 Ar.cells rsG),(Ic aQ qs cQ w10),(AA w10.heap.size 75 2 AC.cells qs),(LV w12 aC cs cC ps cP aH c cH aP),(Ls w12 aC cs sp cC aW ws cW ps cP aR rs cR aQ qs cQ aH c cH aP),(JI c lw4 w15),(mid w18.heap.size w21),(JB w21 lw21)]⟩ a w') (c.Aa.xs.length - 0) ?_ ?_
  ·intro a w' hs;exact⟨w26.heap.size,0,rs,rfl,Nat.le_refl _,Nat.zero_le _,pg_start,hs⟩
  rintro m a w' ⟨n28,i,rsG,rfl,hn27,hki,hpg,hs⟩
  refine(?_:G Try.prog 211 [(1,i6 page),(Fg w4),(EX w12),(EY w12),(Fj w15),(Jv ps),(115,Ad i)] [] ⟨w,n28,[(Ak w),(Gn c z),(mid w2.heap.size w4),(G7 lw4 w4),(II c lw4 w7),(Ig aH c cH w10),(H8 aC cs sp cC w10),(Ie aW ws cW w10),(AA w10.heap.size 73 3 Am.cells ws),(AA w10.heap.size 73 3 Am.cells sp),(JY ps cP aP w10),(HY aR rs cR w10),(AA w10.heap.size 54 4 Ar.cells rsG),(Ic aQ qs cQ w10),(AA w10.heap.size 75 2 AC.cells qs),(LV w12 aC cs cC ps cP aH c cH aP),(Ls w12 aC cs sp cC aW ws cW ps cP aR rs cR aQ qs cQ aH c cH aP),(JI c lw4 w15),(mid w18.heap.size w21),(JB w21 lw21)]⟩ _ _ _) a w' hs
  clear hs a w'
  refine CP ?_
  by_cases h29:(i:Int)<(ps.length:Int)
  ·refine A8 14 0 [1] [[oT],[o0,o0]] [BT ((i:Int)<(ps.length:Int))] [(1,i6 page),(Fg w4),(EX w12),(EY w12),(Fj w15),(Jv ps),(115,Ad i),(19,Ad i)] rfl ⟨bt,Ae⟩ ?_
   obtain⟨y,hy⟩:∃ y_:Ah,y_=gd c.Aa.xs i:=⟨_,rfl⟩
   obtain⟨⟨aX,cX,xR⟩,hyx⟩:∃ x_:Sl Ar,x_=gd rsG i:=⟨_,rfl⟩
   have hgl:=hpg.len;have hxM:=hyx.trans (hpg.hi i (Nat.le_refl _) (by omega));have hxw:=hprt.r1 i (by omega);rw[←hxM,←hy]at hxw;have hxl:xR.length=y.Ag.xs.length+12:=by rw[show xR=_ from hxw,Nc]
   have hyl:=hLim.rs i (by omega);rw[←hy]at hyl
   have hpi:gd (ps++BL Gj 12) i=⟨y.Name,y.Entry,y.Ef,y.Dl,y.Eg,y.DD,⟨aX,cX - 0,y.Ag.xs⟩,⟨(gd qs i).a,(gd qs i).cap - 0,y.Ai.xs⟩⟩:=by rw[XP (by omega),hprt.p1 i (by omega),←hxM,←hy]
   refine VA 12 [0,1,2,3,4,5,6,7,8,9,10,11,13,14,15,16,17,18,19] w10.heap.size 54 4 Ar.cells rsG i ⟨aX,cX,xR⟩ hyx (by omega) [(Ak w),(Gn c z),(mid w2.heap.size w4),(G7 lw4 w4),(II c lw4 w7),(Ig aH c cH w10),(H8 aC cs sp cC w10),(Ie aW ws cW w10),(AA w10.heap.size 73 3 Am.cells ws),(AA w10.heap.size 73 3 Am.cells sp),(JY ps cP aP w10),(HY aR rs cR w10),(Ic aQ qs cQ w10),(AA w10.heap.size 75 2 AC.cells qs),(LV w12 aC cs cC ps cP aH c cH aP),(Ls w12 aC cs sp cC aW ws cW ps cP aR rs cR aQ qs cQ aH c cH aP),(JI c lw4 w15),(mid w18.heap.size w21),(JB w21 lw21)] ?_
   refine Xk (base:=w10.heap.size) (e:=52) (sz:=8) (cells:=Ah.cells) (a:=aP) (n:=((ps++BL Gj 12).length)) (cap:=cP) (xs:=(ps++BL Gj 12)) 10 (by first | omega | (simp only[Sj,List.length_append,Dv];omega)) (fun b30 hg31 hb32 => ?_)
   subst hg31
   refine q_c 8 0 [] [[o0,(a1 14),o0,(oi i),(oa [.via 10 (.string y.Name),.via 10 (i6 y.Entry),.via 10 (i6 y.Ef),.via 10 (i6 y.Dl),.via 10 (i6 y.Eg),.via 10 (i6 y.DD),.via 10 (.slice aX y.Ag.xs.length (cX - 0)),.via 10 (.slice ((gd qs i).a) y.Ai.xs.length ((gd qs i).cap - 0))]),o0,(an 8 21)],[o0,(a1 21),o0,o0]] [Qb w12.heap.size,BI i,i<ps.length,Bq,∀ w',Ch.holds (Jg b30 ps cP w10) w'→w'.cell? ⟨b30,0+EK 8 i,none⟩=some (.string y.Name),∀ w',Ch.holds (Jg b30 ps cP w10) w'→w'.cell? ⟨b30,0+EK 8 i+1,none⟩=some (i6 y.Entry),∀ w',Ch.holds (Jg b30 ps cP w10) w'→w'.cell? ⟨b30,0+EK 8 i+2,none⟩=some (i6 y.Ef),∀ w',Ch.holds (Jg b30 ps cP w10) w'→w'.cell? ⟨b30,0+EK 8 i+3,none⟩=some (i6 y.Dl),∀ w',Ch.holds (Jg b30 ps cP w10) w'→w'.cell? ⟨b30,0+EK 8 i+4,none⟩=some (i6 y.Eg),∀ w',Ch.holds (Jg b30 ps cP w10) w'→w'.cell? ⟨b30,0+EK 8 i+5,none⟩=some (i6 y.DD),∀ w',Ch.holds (Jg b30 ps cP w10) w'→w'.cell? ⟨b30,0+EK 8 i+6,none⟩=some (.slice aX y.Ag.xs.length (cX - 0)),∀ w',Ch.holds (Jg b30 ps cP w10) w'→w'.cell? ⟨b30,0+EK 8 i+7,none⟩=some (.slice ((gd qs i).a) y.Ai.xs.length ((gd qs i).cap - 0)),Qb n28,Qb n28,Qb n28,Qb n28,Qb n28,Qb n28,Qb n28,Qb n28,Qb n28] [(1,i6 page),(Fg w4),(EX w12),(EY w12),(Fj w15),(O5 n28),(Jv ps),(115,Ad i),(O0 y),(126,i6 0)] ⟨w,n28+1,[(Ak w),(Gn c z),(mid w2.heap.size w4),(G7 lw4 w4),(II c lw4 w7),(Ig aH c cH w10),(H8 aC cs sp cC w10),(Ie aW ws cW w10),(AA w10.heap.size 73 3 Am.cells ws),(AA w10.heap.size 73 3 Am.cells sp),(Jg b30 ps cP w10),(HY aR rs cR w10),(Ic aQ qs cQ w10),(AA w10.heap.size 75 2 AC.cells qs),(PS w12 aC cs cC b30 ps cP aH c cH),(Qe w12 aC cs sp cC aW ws cW b30 ps cP aR rs cR aQ qs cQ aH c cH),(JI c lw4 w15),(mid w18.heap.size w21),(JB w21 lw21),(Qy i w10 rsG),(AV w10.heap.size 54 4 Ar.cells (.slice aX xR.length cX) xR),(Rh qs n28 y aX cX i)]⟩ rfl ⟨rfl,rfl,(by omega),rfl,Iq (sz:=8) (j:=i) (k:=0) (fun _=>rfl) (by rw[List.length_append];omega) (by rw[hpi];rfl),Iq (sz:=8) (j:=i) (k:=1) (fun _=>rfl) (by rw[List.length_append];omega) (by rw[hpi];rfl),Iq (sz:=8) (j:=i) (k:=2) (fun _=>rfl) (by rw[List.length_append];omega) (by rw[hpi];rfl),Iq (sz:=8) (j:=i) (k:=3) (fun _=>rfl) (by rw[List.length_append];omega) (by rw[hpi];rfl),Iq (sz:=8) (j:=i) (k:=4) (fun _=>rfl) (by rw[List.length_append];omega) (by rw[hpi];rfl),Iq (sz:=8) (j:=i) (k:=5) (fun _=>rfl) (by rw[List.length_append];omega) (by rw[hpi];rfl),Iq (sz:=8) (j:=i) (k:=6) (fun _=>rfl) (by rw[List.length_append];omega) (by rw[hpi];rfl),Iq (sz:=8) (j:=i) (k:=7) (fun _=>rfl) (by rw[List.length_append];omega) (by rw[hpi];rfl),rfl,rfl,rfl,rfl,rfl,rfl,rfl,rfl,rfl,Ae⟩ ?_
   refine Ce (fun m a w'=>∃ (n34:Nat) (k:Nat),m=y.Ag.xs.length - k∧n28+1≤n34∧(k≤y.Ag.xs.length)∧St 211 [(1,i6 page),(Fg w4),(EX w12),(EY w12),(Fj w15),(O5 n28),(Jv ps),(115,Ad i),(O0 y),(126,Ad k)] [] ⟨w,n34,[(Ak w),(Gn c z),(mid w2.heap.size w4),(G7 lw4 w4),(II c lw4 w7),(Ig aH c cH w10),(H8 aC cs sp cC w10),(Ie aW ws cW w10),(AA w10.heap.size 73 3 Am.cells ws),(AA w10.heap.size 73 3 Am.cells sp),(Jg b30 ps cP w10),(HY aR rs cR w10),(Ic aQ qs cQ w10),(AA w10.heap.size 75 2 AC.cells qs),(PS w12 aC cs cC b30 ps cP aH c cH),(Qe w12 aC cs sp cC aW ws cW b30 ps cP aR rs cR aQ qs cQ aH c cH),(JI c lw4 w15),(mid w18.heap.size w21),(JB w21 lw21),(Qy i w10 rsG),(AV w10.heap.size 54 4 Ar.cells (.slice aX xR.length cX) (Lu page k xR)),(Rh qs n28 y aX cX i)]⟩ a w') (y.Ag.xs.length - 0) ?_ ?_
   ·intro a w' hs;exact⟨(n28+1),0,rfl,Nat.le_refl _,Nat.zero_le _,(by(try dsimp only[Qe,Rh,Ls,PS,LV,JI,II,JB,G7,Gn,Jg,Ig,H8,JY,Ie,HY,Ic,Qy,O0,EY,EX,Fj,Fg,Jv,O5]at hs ⊢);rw[pgL_zero];exact hs)⟩
   rintro m a w' ⟨n34,k,rfl,hn33,hkk,hs⟩
   refine(?_:G Try.prog 211 [(1,i6 page),(Fg w4),(EX w12),(EY w12),(Fj w15),(O5 n28),(Jv ps),(115,Ad i),(O0 y),(126,Ad k)] [] ⟨w,n34,[(Ak w),(Gn c z),(mid w2.heap.size w4),(G7 lw4 w4),(II c lw4 w7),(Ig aH c cH w10),(H8 aC cs sp cC w10),(Ie aW ws cW w10),(AA w10.heap.size 73 3 Am.cells ws),(AA w10.heap.size 73 3 Am.cells sp),(Jg b30 ps cP w10),(HY aR rs cR w10),(Ic aQ qs cQ w10),(AA w10.heap.size 75 2 AC.cells qs),(PS w12 aC cs cC b30 ps cP aH c cH),(Qe w12 aC cs sp cC aW ws cW b30 ps cP aR rs cR aQ qs cQ aH c cH),(JI c lw4 w15),(mid w18.heap.size w21),(JB w21 lw21),(Qy i w10 rsG),(AV w10.heap.size 54 4 Ar.cells (.slice aX xR.length cX) (Lu page k xR)),(Rh qs n28 y aX cX i)]⟩ _ _ _) a w' hs
   clear hs a w'
   refine CP ?_
   by_cases h35:(k:Int)<(y.Ag.xs.length:Int)
   ·refine A8 13 0 [1] [[oT],[o0,o0]] [BT ((k:Int)<(y.Ag.xs.length:Int))] [(1,i6 page),(Fg w4),(EX w12),(EY w12),(Fj w15),(O5 n28),(Jv ps),(115,Ad i),(O0 y),(126,Ad k),(21,Ad k)] rfl ⟨bt,Ae⟩ ?_
    refine Xk (base:=w10.heap.size) (e:=54) (sz:=4) (cells:=Ar.cells) (a:=aX) (n:=xR.length) (cap:=cX) (xs:=(Lu page k xR)) 20 (by first | omega | (simp only[Sj,List.length_append,Dv];omega)) (fun b36 hg37 hb38 => ?_)
    subst hg37
    refine A8 1 6 [] [[o0,(a1 21),o0,o0,(oi k),o0]] [Qb n28,BI k,k<y.Ag.xs.length,Bq] [(1,i6 page),(Fg w4),(EX w12),(EY w12),(Fj w15),(O5 n28),(Jv ps),(115,Ad i),(O0 y),(126,Ad k),(132,i6 page),(134,.pointer (some ⟨b36,0+EK 4 k,none⟩))] rfl ⟨rfl,rfl,(by omega),rfl,Ae⟩ ?_
    refine MI 20 k 0 (Lu page k xR) (Vs page (gd (Lu page k xR) k)) Ar.cells w10.heap.size 54 4 b36 xR.length cX (i6 page) none (by rw[Sj];omega) rfl ?_
    refine Di 5 0 [] [[],[(ov (i6 ((k+1:Nat):Int))),o0]] [Wr ((k:Int)+1) (((k+1:Nat):Int))] [(1,i6 page),(Fg w4),(EX w12),(EY w12),(Fj w15),(O5 n28),(Jv ps),(115,Ad i),(O0 y),(126,i6 ((k+1:Nat):Int))] rfl ⟨Be,Ae⟩ ?_
    refine Bz (fun a w' hs=>⟨y.Ag.xs.length - (k+1),by omega,n34,(k+1),rfl,by omega,by omega,(by(try dsimp only[Qe,Rh,Ls,PS,LV,JI,II,JB,G7,Gn,Jg,Ig,H8,JY,Ie,HY,Ic,Qy,O0,EY,EX,Fj,Fg,Jv,O5]at hs ⊢);rw[←pgL_step (by omega)];exact hs)⟩)
   refine A8 13 0 [0] [[oF],[(ov (i6 ((i+1:Nat):Int))),o0]] [BF ((k:Int)<(y.Ag.xs.length:Int)),Wr ((i:Int)+1) (((i+1:Nat):Int))] [(1,i6 page),(Fg w4),(EX w12),(EY w12),(Fj w15),(Jv ps),(115,i6 ((i+1:Nat):Int))] rfl ⟨bf,Be,Ae⟩ ?_
   refine e_eqA ⟨w,n34,[(Ak w),(Gn c z),(mid w2.heap.size w4),(G7 lw4 w4),(II c lw4 w7),(Ig aH c cH w10),(H8 aC cs sp cC w10),(Ie aW ws cW w10),(AA w10.heap.size 73 3 Am.cells ws),(AA w10.heap.size 73 3 Am.cells sp),(Jg b30 ps cP w10),(HY aR rs cR w10),(Ic aQ qs cQ w10),(AA w10.heap.size 75 2 AC.cells qs),(PS w12 aC cs cC b30 ps cP aH c cH),(Qe w12 aC cs sp cC aW ws cW b30 ps cP aR rs cR aQ qs cQ aH c cH),(JI c lw4 w15),(mid w18.heap.size w21),(JB w21 lw21),(Qy i w10 rsG),(AV w10.heap.size 54 4 Ar.cells (.slice aX (((Lu page k xR)).length) cX) (Lu page k xR)),(Rh qs n28 y aX cX i)]⟩ (by simp only[Sj]) ?_
   refine Xp 19 20 [0,1,2,3,4,5,6,7,8,9,10,11,12,13,14,15,16,17,18,21] w10.heap.size 54 4 Ar.cells rsG i (by omega) aX cX (Lu page k xR) [(Ak w),(Gn c z),(mid w2.heap.size w4),(G7 lw4 w4),(II c lw4 w7),(Ig aH c cH w10),(H8 aC cs sp cC w10),(Ie aW ws cW w10),(AA w10.heap.size 73 3 Am.cells ws),(AA w10.heap.size 73 3 Am.cells sp),(Jg b30 ps cP w10),(HY aR rs cR w10),(Ic aQ qs cQ w10),(AA w10.heap.size 75 2 AC.cells qs),(PS w12 aC cs cC b30 ps cP aH c cH),(Qe w12 aC cs sp cC aW ws cW b30 ps cP aR rs cR aQ qs cQ aH c cH),(JI c lw4 w15),(mid w18.heap.size w21),(JB w21 lw21),(Rh qs n28 y aX cX i)] ?_
   refine BO [0,1,2,3,4,5,6,7,8,9,10,11,20,12,13,14,15,16,17,18] [(Ak w),(Gn c z),(mid w2.heap.size w4),(G7 lw4 w4),(II c lw4 w7),(Ig aH c cH w10),(H8 aC cs sp cC w10),(Ie aW ws cW w10),(AA w10.heap.size 73 3 Am.cells ws),(AA w10.heap.size 73 3 Am.cells sp),(Jg b30 ps cP w10),(HY aR rs cR w10),(AA w10.heap.size 54 4 Ar.cells (rsG.set i ⟨aX,cX,(Lu page k xR)⟩)),(Ic aQ qs cQ w10),(AA w10.heap.size 75 2 AC.cells qs),(PS w12 aC cs cC b30 ps cP aH c cH),(Qe w12 aC cs sp cC aW ws cW b30 ps cP aR rs cR aQ qs cQ aH c cH),(JI c lw4 w15),(mid w18.heap.size w21),(JB w21 lw21)] rfl rfl ?_
   refine Dp [1,5,11,12,13,114,115] [(1,i6 page),(Fg w4),(EX w12),(EY w12),(Fj w15),(Jv ps),(115,i6 ((i+1:Nat):Int))] ?_
   refine Bz (fun a w' hs=>⟨c.Aa.xs.length - (i+1),by omega,n34,(i+1),(rsG.set i ⟨aX,cX,(Lu page k xR)⟩),rfl,by omega,by omega,pg_next hpg (by omega) (by rw[←hxM,←hy,show y.Ag.xs.length=k by omega];rfl),hs⟩)
  refine A8 11 0 [0] [[oF]] [BF ((i:Int)<(ps.length:Int))] [(1,i6 page),(Fg w4),(EX w12),(EY w12),(Fj w15),(Jv ps),(115,Ad i),(116,.bool false)] rfl ⟨bf,Ae⟩ ?_
  have hpg2:U2 page c rs c.Aa.xs.length rsG:=by have h9:=hpg;rw[show i=c.Aa.xs.length by omega]at h9;exact h9
  have hcur2:=cur1 (n:=w10.heap.size) (M:=(⟨aC,cC,cs,sp,aW,cW,ws,aP,cP,ps,aR,cR,rs,aQ,cQ,qs,aH,cH⟩:RM)) hnum hLim ⟨hcor,hsp,hprt⟩ hpage hpg2
  refine A8 1 1 [] [[(an 7 15)]] [Qb w12.heap.size,Qb w12.heap.size,Qb w12.heap.size,Qb w12.heap.size,Qb w12.heap.size,Qb w12.heap.size,Qb w12.heap.size] [(Fg w4),(EX w12),(EY w12),(Fj w15),(137,.agg #[i6 c.Frames,i6 c.Dz,i6 c.Kernel,i6 c.Room,.slice aC cs.length (cC - 0),.slice aP ps.length (cP - 0),.slice aH c.Ac.xs.length (cH - 0)])] rfl ⟨rfl,rfl,rfl,rfl,rfl,rfl,rfl,Ae⟩ ?_
  refine l_call [] [] 14 #[.agg #[i6 c.Frames,i6 c.Dz,i6 c.Kernel,i6 c.Room,.slice aC cs.length (cC - 0),.slice aP ps.length (cP - 0),.slice aH c.Ac.xs.length (cH - 0)]] (some 138) Ae ?_
  intro w39 hw39
  have hq40:=hw39.pick [5,6,7,8,9,10,11,12,13,14] rfl rfl
  refine(leaf_copy hcur2 hq40).mono ?_
  rintro e w41 ⟨d2,rfl,hsd,ho2,hkw41⟩
  have hnw41:n28≤w41.heap.size:=Dx hw39 hkw41
  refine⟨_,_,rfl,hw39.Lc hkw41, ?_⟩
  refine Hu 4 1 [] [[o0,(an 7 21)],[(an 7 21)]] [Qb w41.heap.size,Qb w41.heap.size,Qb w41.heap.size,Qb w41.heap.size,Qb w41.heap.size,Qb w41.heap.size,Qb w41.heap.size,Qb w41.heap.size,Qb w41.heap.size,Qb w41.heap.size,Qb w41.heap.size,Qb w41.heap.size,Qb w41.heap.size,Qb w41.heap.size] [(Fg w4),(EX w12),(EY w12),(Fj w15),(P8 w41),(140,.agg (Af.arr d2))] ⟨w,w41.heap.size+1,[(Ak w),(Gn c z),(mid w2.heap.size w4),(G7 lw4 w4),(II c lw4 w7),(Ig aH c cH w10),(H8 aC cs sp cC w10),(Ie aW ws cW w10),(AA w10.heap.size 73 3 Am.cells ws),(AA w10.heap.size 73 3 Am.cells sp),(JY ps cP aP w10),(HY aR rs cR w10),(AA w10.heap.size 54 4 Ar.cells rsG),(Ic aQ qs cQ w10),(AA w10.heap.size 75 2 AC.cells qs),(LV w12 aC cs cC ps cP aH c cH aP),(Ls w12 aC cs sp cC aW ws cW ps cP aR rs cR aQ qs cQ aH c cH aP),(JI c lw4 w15),(mid w18.heap.size w21),(JB w21 lw21),(mid n28 w41),(TI w41 d2)]⟩ rfl ⟨rfl,rfl,rfl,rfl,rfl,rfl,rfl,rfl,rfl,rfl,rfl,rfl,rfl,rfl,Ae⟩ ?_
  refine l_call [] [] 5 #[.agg (Af.arr d2)] (some 141) Ae ?_
  intro w42 hw42
  have hrf43:=Zb w42 d2 (ho2.ext (hw42.Ua 20) (fun _ _=>trivial));rw[TU hsd]at hrf43
  refine hrf43.mono ?_
  rintro e w44 ⟨lw44,rfl,hIw44,hOw44,hkw44⟩
  have hnw44:w41.heap.size+1≤w44.heap.size:=Dx hw42 hkw44
  rw[hw42.size]at hOw44
  replace hIw44:=hIw44.of hsd
  have hLw44:=hIw44.ok hOw44
  refine⟨_,_,rfl,hw42.Lc hkw44, ?_⟩
  refine Hu 4 5 [] [[o0,o0,o0,o0,(an 4 23),o0],[(an 7 21),o0,(a1 3),o0,o0]] [Qb w44.heap.size,Qb w44.heap.size,Qb w44.heap.size,Qb w44.heap.size,Qb w41.heap.size,Qb w41.heap.size,Qb w41.heap.size,Qb w41.heap.size,Qb w41.heap.size,Qb w41.heap.size,Qb w41.heap.size,Qb w4.heap.size] [(Fg w4),(EX w12),(EY w12),(Fj w15),(P8 w41),(TE w44),(24,i6 (errOf (IG page c))),(145,.agg (Af.arr d2)),(149,i6 (IntKind.i64.wrap ((IntKind.i64.wrap (16*lw4.End)) - 1)))] ⟨w,w44.heap.size+1,[(Ak w),(Gn c z),(mid w2.heap.size w4),(G7 lw4 w4),(II c lw4 w7),(Ig aH c cH w10),(H8 aC cs sp cC w10),(Ie aW ws cW w10),(AA w10.heap.size 73 3 Am.cells ws),(AA w10.heap.size 73 3 Am.cells sp),(JY ps cP aP w10),(HY aR rs cR w10),(AA w10.heap.size 54 4 Ar.cells rsG),(Ic aQ qs cQ w10),(AA w10.heap.size 75 2 AC.cells qs),(LV w12 aC cs cC ps cP aH c cH aP),(Ls w12 aC cs sp cC aW ws cW ps cP aR rs cR aQ qs cQ aH c cH aP),(JI c lw4 w15),(mid w18.heap.size w21),(JB w21 lw21),(mid n28 w41),(TI w41 d2),(mid (w41.heap.size+1) w44),(VH w44 lw44)]⟩ rfl ⟨rfl,rfl,rfl,rfl,rfl,rfl,rfl,rfl,rfl,rfl,rfl,rfl,Ae⟩ ?_
  refine l_call [] [] 6 #[.agg (Af.arr d2),i6 (IntKind.i64.wrap ((IntKind.i64.wrap (16*lw4.End)) - 1))] (some 150) Ae ?_
  intro w45 hw45
  have hro46:=U1 w45 d2 (IntKind.i64.wrap ((IntKind.i64.wrap (16*lw4.End)) - 1)) (TN _) (ho2.ext (hw45.Ua 20) (fun _ _=>trivial));rw[XE hsd,XB hsd]at hro46
  refine hro46.mono ?_
  rintro e w47 ⟨rfl,hkw47⟩
  have hnw47:w44.heap.size+1≤w47.heap.size:=Dx hw45 hkw47
  refine⟨_,_,rfl,hw45.keeps hkw47, ?_⟩
  refine Hu 4 1 [] [[o0,o0,o0,o0,(an 3 24),o0],[(an 7 15)]] [Qb w47.heap.size,Qb w47.heap.size,Qb w47.heap.size,Qb w12.heap.size,Qb w12.heap.size,Qb w12.heap.size,Qb w12.heap.size,Qb w12.heap.size,Qb w12.heap.size,Qb w12.heap.size] [(Fg w4),(EX w12),(EY w12),(Fj w15),(P8 w41),(TE w44),(24,i6 (errOf (IG page c))),(SS w47),(TF c page lw4),(154,.agg #[i6 c.Frames,i6 c.Dz,i6 c.Kernel,i6 c.Room,.slice aC cs.length (cC - 0),.slice aP ps.length (cP - 0),.slice aH c.Ac.xs.length (cH - 0)])] ⟨w,w47.heap.size+1,[(Ak w),(Gn c z),(mid w2.heap.size w4),(G7 lw4 w4),(II c lw4 w7),(Ig aH c cH w10),(H8 aC cs sp cC w10),(Ie aW ws cW w10),(AA w10.heap.size 73 3 Am.cells ws),(AA w10.heap.size 73 3 Am.cells sp),(JY ps cP aP w10),(HY aR rs cR w10),(AA w10.heap.size 54 4 Ar.cells rsG),(Ic aQ qs cQ w10),(AA w10.heap.size 75 2 AC.cells qs),(LV w12 aC cs cC ps cP aH c cH aP),(Ls w12 aC cs sp cC aW ws cW ps cP aR rs cR aQ qs cQ aH c cH aP),(JI c lw4 w15),(mid w18.heap.size w21),(JB w21 lw21),(mid n28 w41),(TI w41 d2),(mid (w41.heap.size+1) w44),(VH w44 lw44),(Y7 c w47 page lw4)]⟩ rfl ⟨rfl,rfl,rfl,rfl,rfl,rfl,rfl,rfl,rfl,rfl,Ae⟩ ?_
  refine l_call [] [] 11 #[.agg #[i6 c.Frames,i6 c.Dz,i6 c.Kernel,i6 c.Room,.slice aC cs.length (cC - 0),.slice aP ps.length (cP - 0),.slice aH c.Ac.xs.length (cH - 0)]] (some 155) Ae ?_
  intro w48 hw48
  have hq49:=hw48.pick [5,6,7,8,9,10,11,12,13,14] rfl rfl
  refine(YZ hcur2 hq49).mono ?_
  rintro e w50 ⟨lw50,rfl,hIw50,hOw50,hkw50⟩
  have hnw50:w47.heap.size+1≤w50.heap.size:=Dx hw48 hkw50
  rw[hw48.size]at hOw50
  have hLw50:=hIw50.ok hOw50
  refine⟨_,_,rfl,hw48.Lc hkw50, ?_⟩
  refine Hu 4 5 [] [[o0,o0,o0,o0,(an 4 26),o0],[(an 7 15),o0,(a1 3),o0,o0]] [Qb w50.heap.size,Qb w50.heap.size,Qb w50.heap.size,Qb w50.heap.size,Qb w12.heap.size,Qb w12.heap.size,Qb w12.heap.size,Qb w12.heap.size,Qb w12.heap.size,Qb w12.heap.size,Qb w12.heap.size,Qb w4.heap.size] [(EX w12),(EY w12),(Fj w15),(P8 w41),(TE w44),(24,i6 (errOf (IG page c))),(SS w47),(TF c page lw4),(27,pt w50.heap.size),(28,i6 (errOf (IG page c))),(159,.agg #[i6 c.Frames,i6 c.Dz,i6 c.Kernel,i6 c.Room,.slice aC cs.length (cC - 0),.slice aP ps.length (cP - 0),.slice aH c.Ac.xs.length (cH - 0)]),(163,i6 (IntKind.i64.wrap ((IntKind.i64.wrap (16*lw4.End)) - 1)))] ⟨w,w50.heap.size+1,[(Ak w),(Gn c z),(mid w2.heap.size w4),(G7 lw4 w4),(II c lw4 w7),(Ig aH c cH w10),(H8 aC cs sp cC w10),(Ie aW ws cW w10),(AA w10.heap.size 73 3 Am.cells ws),(AA w10.heap.size 73 3 Am.cells sp),(JY ps cP aP w10),(HY aR rs cR w10),(AA w10.heap.size 54 4 Ar.cells rsG),(Ic aQ qs cQ w10),(AA w10.heap.size 75 2 AC.cells qs),(LV w12 aC cs cC ps cP aH c cH aP),(Ls w12 aC cs sp cC aW ws cW ps cP aR rs cR aQ qs cQ aH c cH aP),(JI c lw4 w15),(mid w18.heap.size w21),(JB w21 lw21),(mid n28 w41),(TI w41 d2),(mid (w41.heap.size+1) w44),(VH w44 lw44),(Y7 c w47 page lw4),(mid (w47.heap.size+1) w50),(.blk w50.heap.size (.cells (Bj.arr lw50) 31 (0,0)) true)]⟩ rfl ⟨rfl,rfl,rfl,rfl,rfl,rfl,rfl,rfl,rfl,rfl,rfl,rfl,Ae⟩ ?_
  refine l_call [] [] 9 #[.agg #[i6 c.Frames,i6 c.Dz,i6 c.Kernel,i6 c.Room,.slice aC cs.length (cC - 0),.slice aP ps.length (cP - 0),.slice aH c.Ac.xs.length (cH - 0)],i6 (IntKind.i64.wrap ((IntKind.i64.wrap (16*lw4.End)) - 1))] (some 164) Ae ?_
  intro w51 hw51
  have hq52:=hw51.pick [5,6,7,8,9,10,11,12,13,14] rfl rfl
  refine(Wy hcur2 hq52 (IntKind.i64.wrap ((IntKind.i64.wrap (16*lw4.End)) - 1)) (TN _)).mono ?_
  rintro e w53 ⟨rfl,hkw53⟩
  have hnw53:w50.heap.size+1≤w53.heap.size:=Dx hw51 hkw53
  refine⟨_,_,rfl,hw51.keeps hkw53, ?_⟩
  refine Hu 4 1 [] [[o0,o0,o0,(an 3 17),o0],[(an 7 15)]] [Qb w15.heap.size,Qb w15.heap.size,Qb w15.heap.size,Qb w12.heap.size,Qb w12.heap.size,Qb w12.heap.size,Qb w12.heap.size,Qb w12.heap.size,Qb w12.heap.size,Qb w12.heap.size] [(EX w12),(EY w12),(Fj w15),(P8 w41),(TE w44),(24,i6 (errOf (IG page c))),(SS w47),(TF c page lw4),(27,pt w50.heap.size),(28,i6 (errOf (IG page c))),(WL c page lw4),(168,.agg #[i6 c.Frames,i6 c.Dz,i6 c.Kernel,i6 c.Room,.slice aC cs.length (cC - 0),.slice aP ps.length (cP - 0),.slice aH c.Ac.xs.length (cH - 0)])] ⟨w,w53.heap.size,[(Ak w),(Gn c z),(mid w2.heap.size w4),(G7 lw4 w4),(II c lw4 w7),(Ig aH c cH w10),(H8 aC cs sp cC w10),(Ie aW ws cW w10),(AA w10.heap.size 73 3 Am.cells ws),(AA w10.heap.size 73 3 Am.cells sp),(JY ps cP aP w10),(HY aR rs cR w10),(AA w10.heap.size 54 4 Ar.cells rsG),(Ic aQ qs cQ w10),(AA w10.heap.size 75 2 AC.cells qs),(LV w12 aC cs cC ps cP aH c cH aP),(Ls w12 aC cs sp cC aW ws cW ps cP aR rs cR aQ qs cQ aH c cH aP),(.blk w15.heap.size (.cells (A7.arr (IV (IG page c) (IntKind.i64.wrap ((IntKind.i64.wrap (16*lw4.End)) - 1)))) 36 (0,0)) true),(mid w18.heap.size w21),(JB w21 lw21),(mid n28 w41),(TI w41 d2),(mid (w41.heap.size+1) w44),(VH w44 lw44),(Y7 c w47 page lw4),(mid (w47.heap.size+1) w50),(.blk w50.heap.size (.cells (Bj.arr lw50) 31 (0,0)) true)]⟩ rfl ⟨rfl,rfl,rfl,rfl,rfl,rfl,rfl,rfl,rfl,rfl,Ae⟩ ?_
  refine l_call [] [] 10 #[.agg #[i6 c.Frames,i6 c.Dz,i6 c.Kernel,i6 c.Room,.slice aC cs.length (cC - 0),.slice aP ps.length (cP - 0),.slice aH c.Ac.xs.length (cH - 0)]] (some 169) Ae ?_
  intro w54 hw54
  have hq55:=hw54.pick [5,6,7,8,9,10,11,12,13,14] rfl rfl
  refine(Xt hcur2 hq55).mono ?_
  rintro e w56 ⟨rfl,hkw56⟩
  have hnw56:w53.heap.size≤w56.heap.size:=Dx hw54 hkw56
  refine⟨_,_,rfl,hw54.keeps hkw56, ?_⟩
  refine Di 4 1 [] [[o0,o0,o0,o0,o0],[(an 7 21)]] [Qb w41.heap.size,Qb w41.heap.size,Qb w41.heap.size,Qb w41.heap.size,Qb w41.heap.size,Qb w41.heap.size,Qb w41.heap.size] [(EX w12),(EY w12),(Fj w15),(P8 w41),(TE w44),(24,i6 (errOf (IG page c))),(SS w47),(TF c page lw4),(27,pt w50.heap.size),(28,i6 (errOf (IG page c))),(WL c page lw4),(15,i6 (Gi (IG page c))),(16,i6 (errOf (IG page c))),(173,.agg (Af.arr d2))] rfl ⟨rfl,rfl,rfl,rfl,rfl,rfl,rfl,Ae⟩ ?_
  refine l_call [] [] 7 #[.agg (Af.arr d2)] (some 174) Ae ?_
  intro w57 hw57
  have hrn58:=Vp w57 d2 (ho2.ext (hw57.Ua 20) (fun _ _=>trivial));rw[Xy hsd,TU hsd]at hrn58
  refine hrn58.mono ?_
  rintro e w59 ⟨rfl,hkw59⟩
  have hnw59:w56.heap.size≤w59.heap.size:=Dx hw57 hkw59
  refine⟨_,_,rfl,hw57.keeps hkw59, ?_⟩
  refine Di 4 6 [] [[o0,o0,o0,o0,o0],[o0,o0,oT,o0,(an 4 26),(an 4 23)]] [ET (errOf (IG page c)) (errOf (IG page c)),Qb w50.heap.size,Qb w50.heap.size,Qb w50.heap.size,Qb w50.heap.size,Qb w44.heap.size,Qb w44.heap.size,Qb w44.heap.size,Qb w44.heap.size] [(EX w12),(EY w12),(Fj w15),(P8 w41),(SS w47),(TF c page lw4),(WL c page lw4),(15,i6 (Gi (IG page c))),(16,i6 (errOf (IG page c))),(29,i6 (Gi (IG page c))),(30,i6 (errOf (IG page c))),(180,.bool true),(181,.agg (Bj.arr lw50)),(182,.agg (Bj.arr lw44))] rfl ⟨et,rfl,rfl,rfl,rfl,rfl,rfl,rfl,rfl,Ae⟩ ?_
  refine l_call [] [] 12 #[.agg (Bj.arr lw50),.agg (Bj.arr lw44)] (some 183) Ae ?_
  intro w60 hw60
  refine(WB w60 lw50 lw44 (hLw50.ext (hw60.Ua 25) (fun _ _=>trivial)) (hLw44.ext (hw60.Ua 22) (fun _ _=>trivial)) (hIw50.same hIw44)).mono ?_
  rintro e w61 ⟨rfl,hkw61⟩
  have hnw61:w59.heap.size≤w61.heap.size:=Dx hw60 hkw61
  refine⟨_,_,rfl,hw60.keeps hkw61, ?_⟩
  refine Di 0 25 [] [[o0,o0,(an 3 17),(an 3 24),⟨.seq true,none⟩,o0,o0,o0,o0,oT,o0,o0,o0,o0,oT,o0,o0,o0,o0,oT,o0,o0,(an 7 15),(an 6 16),(an 7 21)]] [Qb w15.heap.size,Qb w15.heap.size,Qb w15.heap.size,Qb w47.heap.size,Qb w47.heap.size,Qb w47.heap.size,(((IV (IG page c) (IntKind.i64.wrap ((IntKind.i64.wrap (16*lw4.End)) - 1))).Kind:Int)==((IV (IG page c) (IntKind.i64.wrap ((IntKind.i64.wrap (16*lw4.End)) - 1))).Kind:Int)&&(((IV (IG page c) (IntKind.i64.wrap ((IntKind.i64.wrap (16*lw4.End)) - 1))).Index:Int)==((IV (IG page c) (IntKind.i64.wrap ((IntKind.i64.wrap (16*lw4.End)) - 1))).Index:Int)&&(((IV (IG page c) (IntKind.i64.wrap ((IntKind.i64.wrap (16*lw4.End)) - 1))).Port:Int)==((IV (IG page c) (IntKind.i64.wrap ((IntKind.i64.wrap (16*lw4.End)) - 1))).Port:Int)&&true)))=true,ET (KN (IG page c) (IntKind.i64.wrap ((IntKind.i64.wrap (16*lw4.End)) - 1))) (KN (IG page c) (IntKind.i64.wrap ((IntKind.i64.wrap (16*lw4.End)) - 1))),ET (Gi (IG page c)) (Gi (IG page c)),ET (errOf (IG page c)) (errOf (IG page c)),Qb w12.heap.size,Qb w12.heap.size,Qb w12.heap.size,Qb w12.heap.size,Qb w12.heap.size,Qb w12.heap.size,Qb w12.heap.size,Qb (w12.heap.size+1),Qb (w12.heap.size+1),Qb (w12.heap.size+1),Qb (w12.heap.size+1),Qb (w12.heap.size+1),Qb (w12.heap.size+1),Qb w41.heap.size,Qb w41.heap.size,Qb w41.heap.size,Qb w41.heap.size,Qb w41.heap.size,Qb w41.heap.size,Qb w41.heap.size] [(205,.bool true),(206,.agg #[i6 c.Frames,i6 c.Dz,i6 c.Kernel,i6 c.Room,.slice aC cs.length (cC - 0),.slice aP ps.length (cP - 0),.slice aH c.Ac.xs.length (cH - 0)]),(207,.agg #[.slice aC ((cs++sp).length) cC,.slice aW ws.length cW,.slice aP ((ps++BL Gj 12).length) cP,.slice aR rs.length cR,.slice aQ qs.length cQ,.slice aH ((wid GY c.Ac.xs).length) cH]),(208,.agg (Af.arr d2))] rfl ⟨rfl,rfl,rfl,rfl,rfl,rfl,(by simp),et,et,et,rfl,rfl,rfl,rfl,rfl,rfl,rfl,rfl,rfl,rfl,rfl,rfl,rfl,rfl,rfl,rfl,rfl,rfl,rfl,rfl,Ae⟩ ?_
  refine l_call [] [] 13 #[.agg #[i6 c.Frames,i6 c.Dz,i6 c.Kernel,i6 c.Room,.slice aC cs.length (cC - 0),.slice aP ps.length (cP - 0),.slice aH c.Ac.xs.length (cH - 0)],.agg #[.slice aC ((cs++sp).length) cC,.slice aW ws.length cW,.slice aP ((ps++BL Gj 12).length) cP,.slice aR rs.length cR,.slice aQ qs.length cQ,.slice aH ((wid GY c.Ac.xs).length) cH],.agg (Af.arr d2)] (some 209) Ae ?_
  intro w62 hw62
  have hq63:=hw62.pick [5,6,7,8,9,10,11,12,13,14] rfl rfl
  refine(X4 hcur2 hq63 d2 (ho2.ext (hw62.Ua 20) (fun _ _=>trivial)) hsd).mono ?_
  rintro e w64 ⟨rfl,hkw64⟩
  have hnw64:w61.heap.size≤w64.heap.size:=Dx hw62 hkw64
  refine⟨_,_,rfl,hw62.keeps hkw64, ?_⟩
  refine Di 3 0 [] [[o0,o0]] [] [(4,.bool true)] rfl Ae ?_
  refine AZ [] [] (.bool true) Ae ?_
  intro w65 hw65
  exact⟨rfl,Bg hw65⟩
 refine⟨_,_,rfl,hw1.keeps hkw2, ?_⟩
 refine Di 8 0 [1] [[],[o0]] [] [(4,.bool true)] rfl Ae ?_
 refine AZ [] [] (.bool true) Ae ?_
 intro w66 hw66
 exact⟨rfl,Bg hw66⟩
open Go Go.ChangeShapes Go.Deep Go.Proofs.Ytlhjneaafhoipaa.Eng Go.Proofs.Ytlhjneaafhoipaa.Mem
theorem Zu:Rd Try.prog 73 Am.cells Am.ok:=by
 intro H enc W fuel cs x hx hw
 obtain⟨xs,n, -,rfl,hl,hlen,hf⟩:=DataW.trod_struct Try.underlying73 hx
 rw[show Try.prog.cellsOf 73=3 from by kernel_rfl]at hl
 match cs,hl with
 | [c0,c1,c2],_ =>
  obtain⟨y0,e0,k0⟩:=EC Try.underlying73 hlen hf hw 0 0 1 _ rfl rfl (by kernel_rfl) (IP Try.underlying3)
  have g0:[c0]=_:=e0
  simp only[List.cons.injEq,and_true]at g0
  subst g0
  obtain⟨y1,e1,k1⟩:=EC Try.underlying73 hlen hf hw 1 1 1 _ rfl rfl (by kernel_rfl) (IP Try.underlying3)
  have g1:[c1]=_:=e1
  simp only[List.cons.injEq,and_true]at g1
  subst g1
  obtain⟨y2,e2,k2⟩:=EC Try.underlying73 hlen hf hw 2 2 1 _ rfl rfl (by kernel_rfl) (IP Try.underlying3)
  have g2:[c2]=_:=e2
  simp only[List.cons.injEq,and_true]at g2
  subst g2
  exact⟨⟨y0,y1,y2⟩,rfl,⟨k0,k1,k2⟩⟩
theorem Z7:Rd Try.prog 54 Ar.cells Ar.ok:=by
 intro H enc W fuel cs x hx hw
 obtain⟨xs,n, -,rfl,hl,hlen,hf⟩:=DataW.trod_struct Try.underlying54 hx
 rw[show Try.prog.cellsOf 54=4 from by kernel_rfl]at hl
 match cs,hl with
 | [c0,c1,c2,c3],_ =>
  obtain⟨y0,e0,k0⟩:=EC Try.underlying54 hlen hf hw 0 0 1 _ rfl rfl (by kernel_rfl) (IP Try.underlying3)
  have g0:[c0]=_:=e0
  simp only[List.cons.injEq,and_true]at g0
  subst g0
  obtain⟨y1,e1,k1⟩:=EC Try.underlying54 hlen hf hw 1 1 1 _ rfl rfl (by kernel_rfl) (IP Try.underlying3)
  have g1:[c1]=_:=e1
  simp only[List.cons.injEq,and_true]at g1
  subst g1
  obtain⟨y2,e2,k2⟩:=EC Try.underlying54 hlen hf hw 2 2 1 _ rfl rfl (by kernel_rfl) (IP Try.underlying3)
  have g2:[c2]=_:=e2
  simp only[List.cons.injEq,and_true]at g2
  subst g2
  obtain⟨y3,e3,k3⟩:=EC Try.underlying54 hlen hf hw 3 3 1 _ rfl rfl (by kernel_rfl) (IP Try.underlying3)
  have g3:[c3]=_:=e3
  simp only[List.cons.injEq,and_true]at g3
  subst g3
  exact⟨⟨y0,y1,y2,y3⟩,rfl,⟨k0,k1,k2,k3⟩⟩
theorem rd_TPort:Rd Try.prog 75 AC.cells AC.ok:=by
 intro H enc W fuel cs x hx hw
 obtain⟨xs,n, -,rfl,hl,hlen,hf⟩:=DataW.trod_struct Try.underlying75 hx
 rw[show Try.prog.cellsOf 75=2 from by kernel_rfl]at hl
 match cs,hl with
 | [c0,c1],_ =>
  obtain⟨y0,e0,k0⟩:=EC Try.underlying75 hlen hf hw 0 0 1 _ rfl rfl (by kernel_rfl) (IP Try.underlying3)
  have g0:[c0]=_:=e0
  simp only[List.cons.injEq,and_true]at g0
  subst g0
  obtain⟨y1,e1,k1⟩:=EC Try.underlying75 hlen hf hw 1 1 1 _ rfl rfl (by kernel_rfl) (rd_bool Try.underlying4)
  have g1:[c1]=_:=e1
  simp only[List.cons.injEq,and_true]at g1
  subst g1
  exact⟨⟨y0,y1⟩,rfl,⟨k0,k1⟩⟩
theorem XJ:Rd Try.prog 52 Ah.cells Ah.ok:=by
 intro H enc W fuel cs x hx hw
 obtain⟨xs,n, -,rfl,hl,hlen,hf⟩:=DataW.trod_struct Try.underlying52 hx
 rw[show Try.prog.cellsOf 52=8 from by kernel_rfl]at hl
 match cs,hl with
 | [c0,c1,c2,c3,c4,c5,c6,c7],_ =>
  obtain⟨y0,e0,k0⟩:=EC Try.underlying52 hlen hf hw 0 0 1 _ rfl rfl (by kernel_rfl) (ZQ Try.underlying9)
  have g0:[c0]=_:=e0
  simp only[List.cons.injEq,and_true]at g0
  subst g0
  obtain⟨y1,e1,k1⟩:=EC Try.underlying52 hlen hf hw 1 1 1 _ rfl rfl (by kernel_rfl) (IP Try.underlying3)
  have g1:[c1]=_:=e1
  simp only[List.cons.injEq,and_true]at g1
  subst g1
  obtain⟨y2,e2,k2⟩:=EC Try.underlying52 hlen hf hw 2 2 1 _ rfl rfl (by kernel_rfl) (IP Try.underlying3)
  have g2:[c2]=_:=e2
  simp only[List.cons.injEq,and_true]at g2
  subst g2
  obtain⟨y3,e3,k3⟩:=EC Try.underlying52 hlen hf hw 3 3 1 _ rfl rfl (by kernel_rfl) (IP Try.underlying3)
  have g3:[c3]=_:=e3
  simp only[List.cons.injEq,and_true]at g3
  subst g3
  obtain⟨y4,e4,k4⟩:=EC Try.underlying52 hlen hf hw 4 4 1 _ rfl rfl (by kernel_rfl) (IP Try.underlying3)
  have g4:[c4]=_:=e4
  simp only[List.cons.injEq,and_true]at g4
  subst g4
  obtain⟨y5,e5,k5⟩:=EC Try.underlying52 hlen hf hw 5 5 1 _ rfl rfl (by kernel_rfl) (IP Try.underlying3)
  have g5:[c5]=_:=e5
  simp only[List.cons.injEq,and_true]at g5
  subst g5
  obtain⟨y6,e6,k6⟩:=EC Try.underlying52 hlen hf hw 6 6 1 _ rfl rfl (by kernel_rfl) (PO (cells:=Ar.cells) (sz:=4) Try.underlying49 (by kernel_rfl) (fun _=>rfl) (by decide) (by kernel_rfl) Z7)
  have g6:[c6]=_:=e6
  simp only[List.cons.injEq,and_true]at g6
  subst g6
  obtain⟨y7,e7,k7⟩:=EC Try.underlying52 hlen hf hw 7 7 1 _ rfl rfl (by kernel_rfl) (PO (cells:=AC.cells) (sz:=2) Try.underlying50 (by kernel_rfl) (fun _=>rfl) (by decide) (by kernel_rfl) rd_TPort)
  have g7:[c7]=_:=e7
  simp only[List.cons.injEq,and_true]at g7
  subst g7
  exact⟨⟨y0,y1,y2,y3,y4,y5,y6,y7⟩,rfl,⟨k0,k1,k2,k3,k4,k5,k6,k7⟩⟩
theorem YQ:Rd Try.prog 77 Aw.cells Aw.ok:=by
 intro H enc W fuel cs x hx hw
 obtain⟨xs,n, -,rfl,hl,hlen,hf⟩:=DataW.trod_struct Try.underlying77 hx
 rw[show Try.prog.cellsOf 77=3 from by kernel_rfl]at hl
 match cs,hl with
 | [c0,c1,c2],_ =>
  obtain⟨y0,e0,k0⟩:=EC Try.underlying77 hlen hf hw 0 0 1 _ rfl rfl (by kernel_rfl) (IP Try.underlying3)
  have g0:[c0]=_:=e0
  simp only[List.cons.injEq,and_true]at g0
  subst g0
  obtain⟨y1,e1,k1⟩:=EC Try.underlying77 hlen hf hw 1 1 1 _ rfl rfl (by kernel_rfl) (IP Try.underlying3)
  have g1:[c1]=_:=e1
  simp only[List.cons.injEq,and_true]at g1
  subst g1
  obtain⟨y2,e2,k2⟩:=EC Try.underlying77 hlen hf hw 2 2 1 _ rfl rfl (by kernel_rfl) (IP Try.underlying3)
  have g2:[c2]=_:=e2
  simp only[List.cons.injEq,and_true]at g2
  subst g2
  exact⟨⟨y0,y1,y2⟩,rfl,⟨k0,k1,k2⟩⟩
theorem rd_TConfig:Rd Try.prog 26 Af.cells Af.ok:=by
 intro H enc W fuel cs x hx hw
 obtain⟨xs,n, -,rfl,hl,hlen,hf⟩:=DataW.trod_struct Try.underlying26 hx
 rw[show Try.prog.cellsOf 26=7 from by kernel_rfl]at hl
 match cs,hl with
 | [c0,c1,c2,c3,c4,c5,c6],_ =>
  obtain⟨y0,e0,k0⟩:=EC Try.underlying26 hlen hf hw 0 0 1 _ rfl rfl (by kernel_rfl) (IP Try.underlying3)
  have g0:[c0]=_:=e0
  simp only[List.cons.injEq,and_true]at g0
  subst g0
  obtain⟨y1,e1,k1⟩:=EC Try.underlying26 hlen hf hw 1 1 1 _ rfl rfl (by kernel_rfl) (IP Try.underlying3)
  have g1:[c1]=_:=e1
  simp only[List.cons.injEq,and_true]at g1
  subst g1
  obtain⟨y2,e2,k2⟩:=EC Try.underlying26 hlen hf hw 2 2 1 _ rfl rfl (by kernel_rfl) (IP Try.underlying3)
  have g2:[c2]=_:=e2
  simp only[List.cons.injEq,and_true]at g2
  subst g2
  obtain⟨y3,e3,k3⟩:=EC Try.underlying26 hlen hf hw 3 3 1 _ rfl rfl (by kernel_rfl) (IP Try.underlying3)
  have g3:[c3]=_:=e3
  simp only[List.cons.injEq,and_true]at g3
  subst g3
  obtain⟨y4,e4,k4⟩:=EC Try.underlying26 hlen hf hw 4 4 1 _ rfl rfl (by kernel_rfl) (PO (cells:=(fun x:Sl Am=>[Sl.val x])) (sz:=1) Try.underlying22 (by kernel_rfl) (fun _=>rfl) (by decide) (by kernel_rfl) (PO (cells:=Am.cells) (sz:=3) Try.underlying57 (by kernel_rfl) (fun _=>rfl) (by decide) (by kernel_rfl) Zu))
  have g4:[c4]=_:=e4
  simp only[List.cons.injEq,and_true]at g4
  subst g4
  obtain⟨y5,e5,k5⟩:=EC Try.underlying26 hlen hf hw 5 5 1 _ rfl rfl (by kernel_rfl) (PO (cells:=Ah.cells) (sz:=8) Try.underlying23 (by kernel_rfl) (fun _=>rfl) (by decide) (by kernel_rfl) XJ)
  have g5:[c5]=_:=e5
  simp only[List.cons.injEq,and_true]at g5
  subst g5
  obtain⟨y6,e6,k6⟩:=EC Try.underlying26 hlen hf hw 6 6 1 _ rfl rfl (by kernel_rfl) (PO (cells:=Aw.cells) (sz:=3) Try.underlying24 (by kernel_rfl) (fun _=>rfl) (by decide) (by kernel_rfl) YQ)
  have g6:[c6]=_:=e6
  simp only[List.cons.injEq,and_true]at g6
  subst g6
  exact⟨⟨y0,y1,y2,y3,y4,y5,y6⟩,rfl,⟨k0,k1,k2,k3,k4,k5,k6⟩⟩
end Go.Proofs.Ytlhjneaafhoipaa.Ly
namespace Go.Proofs.Ytlhjneaafhoipaa.Row
open Go.ChangeShapes Go.WideShapes Go.ChangeAt Go.RowKit
set_option linter.unusedVariables false
section
variable {H:Type}{enc:TypeId×Value→H}{P:Program}
theorem XF(hl:laidOutB P=true){W W':World}(hb:Below W.heap.size W W') :
   ∀ {ts:List TypeId} {vs:List Value} {ds:List (DataW H)} {ps:List MemPlace},
     ts.all (fun t=>P.readableRec t&&decide (t<P.types.size))=true→(∀ x∈ps,x.block<W.heap.size) →
     DataW.TrodAll enc P W 0 (fun _=>true) true ts vs ds ps→DataW.TrodAll enc P W' 0 (fun b=>decide (b<W.heap.size)) true ts vs ds ps:=by
 intro ts
 induction ts with
 | nil =>
   intro vs ds ps _ _ h
   obtain⟨rfl,rfl,rfl⟩:=trodAll_nil h
   exact trodAll_mk0
 | cons t ts ih =>
   intro vs ds ps ht hlt h
   obtain⟨v0,vs0,d0,ds0,p0,q0,rfl,rfl,rfl,h0,r0⟩:=trodAll_cons h
   simp only[List.all_cons,Bool.and_eq_true,decide_eq_true_eq]at ht
   refine trodAll_cons_mk (Below.trod hl ht.1.1 ht.1.2 h0 hb (fun x hx=>hlt x (by simp[hx]))) (ih ht.2 (fun x hx=>hlt x (by simp[hx])) r0)
theorem post_true(hl:laidOutB P=true){f:Func}{s:ChangeSpec}{tb:TypeId}{W W':World}{args:Array Value}{ds gs:List (DataW H)}{before:List MemPlace}
   (hts:f.params.toList.all (fun t=>P.readableRec t&&decide (t<P.types.size))=true) (hres:f.resultTypes = #[tb]) (hbool:P.underlying tb=some .bool)
   (hvars:s.vars=[]) (hfn:s.fn H (ds++gs)={ results:=[.lit (.bool true)],args:=ds })
   (hW:DataW.Whole enc P f.params.toList s.vars false W args.toList ds gs before) (bel:Below W.heap.size W W') :
   s.post enc P f false true false false W args (.bool true) W':=by
 have hW':=hW
 obtain⟨p,q,hA,hV,rfl,hfz,hnd⟩:=hW
 rw[hvars]at hV
 obtain⟨rfl,rfl⟩:=trodVars_none hV
 have hlt:∀ x∈p,x.block<W.heap.size:=fun x hx=>hW'.lt x (by simp[hx])
 refine⟨ds,[],_,[],p,[],hW', ?_, ?_, ?_,bel.frame _,fun h=>by cases h⟩
 · rw[hfn,hres];exact trodAll_mk1 (shut_bool hbool _)
 · rw[hfn];exact XF hl bel hts hlt hA
 · rw[hfn,hvars];rfl
end
end Go.Proofs.Ytlhjneaafhoipaa.Row
