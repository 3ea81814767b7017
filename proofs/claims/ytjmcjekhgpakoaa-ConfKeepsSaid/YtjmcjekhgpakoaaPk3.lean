/- Packed: Yc, Yd, Ye, Yf, Yk, Yl, Ym, Yg, Yn. No conditions. -/
import Derived.Test.YtjmcjekhgpakoaaPk2
namespace Go.Proofs.Ytjmcjekhgpakoaa.Cf
open Go Go.Proofs.Ytjmcjekhgpakoaa.Eng Go.Proofs.Ytjmcjekhgpakoaa.Mem Go.Proofs.Ytjmcjekhgpakoaa.Ly
set_option linter.unusedSimpArgs false
set_option linter.unusedVariables false
set_option maxRecDepth 100000
def DV(b:List Int)(at' n:Nat):List Int:=(b.drop at').take n
theorem IY{b:List Int}{at' n:Nat}(h:at'+n≤b.length):(DV b at' n).length=n:=by unfold DV;rw[List.length_take,List.length_drop];omega
theorem Ol{b:List Int}(h:Ef b)(at' n:Nat):Ef (DV b at' n):=fun x hx=>h x (List.mem_of_mem_drop (List.mem_of_mem_take hx))
def TextPost(w:World)(pr:Nat)(F:Nat→Prop)(b:List Int)(at':Nat)(e:Ending)(w':World):Prop :=
 (at'+4≤b.length∧Az b at' 4≤255∧at'+4+(Az b at' 4).toNat≤b.length∧e = .returned (.string (strOf (DV b (at'+4) (Az b at' 4).toNat)))∧BQ w' pr F b (at'+4+(Az b at' 4).toNat) 0∧AV F w w') ∨
 ((at'+4≤b.length→Az b at' 4≤255→b.length<at'+4+(Az b at' 4).toNat)∧e = .returned (.string ⟨#[]⟩)∧(∃ fl,fl≠0 ∧ -100≤fl∧fl≤100∧BQ w' pr F b at' fl)∧AV F w w')
def TextRaw(w:World)(pr po:Nat)(l:Sl Int)(at':Nat)(e:Ending)(w':World):Prop :=
 ((at'+4≤l.xs.length∧Az l.xs at' 4≤255∧at'+4+(Az l.xs at' 4).toNat≤l.xs.length∧e = .returned (.string (strOf (DV l.xs (at'+4) (Az l.xs at' 4).toNat)))∧At w' pr (.cells #[.pointer (some ⟨po,0,none⟩),.int .i64 0] 126 (0,0))∧At w' po (.cells #[.slice l.a l.xs.length l.cap,.int .i64 ((at'+4+(Az l.xs at' 4).toNat:Nat):Int)] 93 (0,0))) ∨
 ((at'+4≤l.xs.length→Az l.xs at' 4≤255→l.xs.length<at'+4+(Az l.xs at' 4).toNat)∧e = .returned (.string ⟨#[]⟩)∧∃ fl:Int,fl≠0 ∧ -100≤fl∧fl≤100∧At w' pr (.cells #[.pointer (some ⟨po,0,none⟩),.int .i64 fl] 126 (0,0))∧At w' po (.cells #[.slice l.a l.xs.length l.cap,.int .i64 (at':Nat)] 93 (0,0))))∧AV (fun b=>b=pr∨b=po) w w'
section
variable (po:Nat)(l:Sl Int)(at0 pr:Nat)
abbrev qnvh_0:=bk po #[.slice l.a l.xs.length l.cap,Ae at0] 93
abbrev UJ:=bk pr #[pt po,i6 0] 126
abbrev Mc:=(0,pt pr)
end
theorem rtext_walk(w:World)(pr po:Nat)(l:Sl Int)(at0:Nat)(h1:At w pr (.cells #[.pointer (some ⟨po,0,none⟩),.int .i64 0] 126 (0,0)))(h2:At w po (.cells #[.slice l.a l.xs.length l.cap,.int .i64 (at0:Nat)] 93 (0,0)))(hl:BD Bh 1 (fun x=>x<w.heap.size∧¬ (x=pr∨x=po)) w l)(hne:pr≠po)(hB:Ef l.xs)(hlen:l.xs.length≤16384)(hat:at0≤l.xs.length):Calls Try.prog 86 #[.pointer (some ⟨pr,0,none⟩),.int .i64 255] w fun e w'=>TextRaw w pr po l at0 e w':=by
 obtain⟨z,hz⟩:∃ z,z=w.heap.size:=⟨_,rfl⟩
 refine Bc (args:=[pt pr,i6 255]) 101 ⟨w,z,[(old (fun b=>b=pr∨b=po) w),(UJ po pr),(qnvh_0 po l at0)]⟩ Try.func86 rfl (by kernel_rfl) (by kernel_rfl) (hz ▸ sat_two h1 h2 hne) ?_
 have hcap:l.xs.length≤l.cap:=hl.le
 refine Bj [0,1] [(Mc pr),(1,i6 255)] ?_
 refine Aw 18 1 [0] [[o0],[o0,o0,o0,o0,o0,o0,(a1 1),o0,o0],[o0,o0,o0,(a1 1),o0,o0,(a1 2),o0],[o0]] [Qb pr,Qb pr,Qb po] [(Mc pr),(1,i6 255),(5,Ae at0),(24,pt pr)] rfl ⟨rfl,rfl,rfl,Ac⟩ ?_
 refine l_call [] [] 80 #[pt pr,i6 4] (some 25) Ac ?_
 intro w1 hw1
 refine(num_walk w1 pr po l at0 (hw1.at (i:=1) rfl) (hw1.at (i:=2) rfl) (Bf (fun x _ _ hx hv=>BC hv hx.2 _ (hw1.at (i:=0) rfl)) (fun x hx=>⟨Nat.lt_of_lt_of_le hx.1 (by rw[hw1.size];show w.heap.size≤z;omega),hx.2⟩) hl) hne hB hlen (by omega) 4 ⟨by omega,by omega⟩).mono ?_
 rintro e w2 ⟨⟨hqw2,rfl,hpw2,hrw2⟩ | ⟨hqw2,rfl,hpw2,hrw2⟩,hkw2⟩
 ·have hnw2:z≤w2.heap.size:=AB hw1 hkw2
  have hvbw2:=Du hB at0;obtain⟨m,hm⟩:∃ m:Nat,Az l.xs at0 4=(m:Int):=⟨_,(Int.toNat_of_nonneg hvbw2.1).symm⟩;rw[hm]
  refine⟨_,_,rfl,Sat.pq2 hw1 [0] (i:=1) (j:=2) rfl rfl (by decide) rfl rfl rfl rfl hpw2 hrw2 hkw2, ?_⟩
  refine AC 10 0 [0] [[o0],[o0,o0,o0,(a1 1),o0,o0]] [Qb pr] [(Mc pr),(1,i6 255),(5,Ae at0),(6,.int .u64 (m:Int)),(26,.bool false)] rfl ⟨rfl,Ac⟩ ?_
  by_cases h3:(255:Int)<(m:Int)
  ·refine q_c 23 0 [1,1] [[o0,o0,(ov (i6 255)),o0,oT,o0],[o0,o0,o0,(a1 1)],[o0,o0,o0,(a1 1),o0],[o0,o0,o0,(a1 1),o0,o0,o0,(a1 2)],[o0]] [i6 (if(0:Int) > 255 then(0:Int)else 255)=i6 (255),BT ((m:Int) > 255),Qb pr,Qb pr,Qb pr,Qb po] [(4,.string (⟨#[]⟩))] ⟨w,w2.heap.size,[(old (fun b=>b=pr∨b=po) w),(bk pr #[pt po,i6 14] 126),(qnvh_0 po l at0)]⟩ rfl ⟨rfl,bt,rfl,rfl,rfl,rfl,Ac⟩ ?_
   refine AU [] [] (.string (⟨#[]⟩)) Ac ?_
   intro w4 hw4
   exact⟨.inr ⟨by omega,rfl,14,by omega,by omega,by omega,hw4.at (i:=1) rfl,hw4.at (i:=2) rfl⟩,A7 hw4⟩
  refine Aw 6 2 [0] [[o0,o0,(ov (i6 255)),o0,oF,o0],[o0,o0]] [i6 (if(0:Int) > 255 then(0:Int)else 255)=i6 (255),BF ((m:Int) > 255)] [(Mc pr),(5,Ae at0),(6,.int .u64 (m:Int)),(42,.int .u64 (m:Int)),(43,pt pr)] rfl ⟨rfl,bf,Ac⟩ ?_
  refine l_call [] [] 60 #[pt pr] (some 44) Ac ?_
  intro w5 hw5
  refine(U1 w5 pr po l (at0+4) 0 (hw5.at (i:=1) rfl) (hw5.at (i:=2) rfl) (by omega) hlen).mono ?_
  rintro e w6 ⟨rfl,hkw6⟩
  have hnw6:w2.heap.size≤w6.heap.size:=AB hw5 hkw6
  refine⟨_,_,rfl,hw5.keeps hkw6, ?_⟩
  refine DX [0,5,6,42,44] [(Mc pr),(5,Ae at0),(6,.int .u64 (m:Int)),(42,.int .u64 (m:Int)),(44,i6 ((l.xs.length:Int) - (at0+4:Nat)))] ?_
  by_cases h7:((l.xs.length:Int) - (at0+4:Nat):Int)<(m:Int)
  ·refine Ey 22 0 [1,1] [[(ov (.int .u64 ((l.xs.length:Int) - (at0+4:Nat)))),oT,o0],[o0,o0,o0,(a1 1)],[o0,o0,o0,(a1 1),o0],[o0,o0,o0,(a1 1),o0,o0,o0,(a1 2)],[o0]] [Value.int .u64 (IntKind.u64.wrap ((l.xs.length:Int) - (at0+4:Nat)))=Value.int .u64 ((l.xs.length:Int) - (at0+4:Nat)),BT ((m:Int) > ((l.xs.length:Int) - (at0+4:Nat))),Qb pr,Qb pr,Qb pr,Qb po] [(4,.string (⟨#[]⟩))] ⟨w,w6.heap.size,[(old (fun b=>b=pr∨b=po) w),(bk pr #[pt po,i6 12] 126),(qnvh_0 po l at0)]⟩ rfl ⟨congrArg (Value.int .u64) (RS rfl (by omega) (by omega)),bt,rfl,rfl,rfl,rfl,Ac⟩ ?_
   refine AU [] [] (.string (⟨#[]⟩)) Ac ?_
   intro w8 hw8
   exact⟨.inr ⟨by omega,rfl,12,by omega,by omega,by omega,hw8.at (i:=1) rfl,hw8.at (i:=2) rfl⟩,A7 hw8⟩
  refine AC 15 0 [0,0] [[(ov (.int .u64 ((l.xs.length:Int) - (at0+4:Nat)))),oF,o0],[o0,o0,o0,(a1 1),o0]] [Value.int .u64 (IntKind.u64.wrap ((l.xs.length:Int) - (at0+4:Nat)))=Value.int .u64 ((l.xs.length:Int) - (at0+4:Nat)),BF ((m:Int) > ((l.xs.length:Int) - (at0+4:Nat))),Qb pr] [(Mc pr),(5,Ae at0),(6,.int .u64 (m:Int)),(54,.bool false)] rfl ⟨congrArg (Value.int .u64) (RS rfl (by omega) (by omega)),bf,rfl,Ac⟩ ?_
  obtain⟨b9,o10,ha11,hF13,hc12⟩:=((⟨hl,fun _ _=>trivial⟩:Dc Bh 1 (fun _ _ _=>True) _ _ _)).1.all (show 0<l.xs.length by omega)
  replace ha11:l.a=some ⟨b9,o10,none⟩:=ha11
  have hc14:=hc12 0 (show 0<l.xs.length by omega)
  have he15:=((⟨hl,fun _ _=>trivial⟩:Dc Bh 1 (fun _ _ _=>True) _ _ _)).2 0 (show 0<l.xs.length by omega)
  obtain⟨y16,hy16⟩:∃ y_,y_=gd l.xs 0:=⟨_,rfl⟩
  rw[←hy16]at he15 hc14
  by_cases h17:(l.cap:Nat)=at0+4
  ·refine D5 27 [0,1,2] [(old (fun b=>b=pr∨b=po) w),(UJ po pr),(bk po #[.slice l.a l.xs.length l.cap,i6 ((at0+4:Nat):Int)] 93)] rfl rfl ?_
   refine Bz [(0,o0),(1,o0),(2,o0),(3,(a1 1)),(4,o0),(5,o0),(6,(DF 2 b9 o10 l)),(7,o0),(8,o0),(9,o0),(10,(a1 1)),(11,o0),(12,o0),(13,(a1 2)),(14,o0),(15,o0),(16,o0),(17,(a1 1)),(18,o0),(19,o0),(20,(a1 2)),(21,o0),(22,(ov (Ae m))),(23,(ov (i6 (((at0+4)+m:Nat):Int)))),(24,⟨.slc (at0+4) ((at0+4)+m) false,none⟩)] [0,6,86] [Qb pr,Qb po,Df b9 o10 l,Qb pr,Qb po,Qb pr,Qb po,Wr ((m:Int)) ((m:Int)),Wr ((((at0+4:Nat):Int):Int)+(m:Int)) ((((at0+4)+m:Nat):Int)),(((at0+4:Nat):Int):Int)=((at0+4:Nat):Int),((((at0+4)+m:Nat):Int):Int)=(((at0+4)+m:Nat):Int),at0+4≤(at0+4)+m,(at0+4)+m≤l.cap,l.cap=at0+4∨(at0+4)=0] (Dh 25 2) [(Mc pr),(6,.int .u64 (m:Int)),(86,.slice (some ⟨b9,o10,none⟩) (((at0+4)+m) - (at0+4)) (l.cap - (at0+4)))] ⟨rfl,rfl,CZ ha11,rfl,rfl,rfl,rfl,Bq rfl,Bq,rfl,rfl,(by omega),(by omega),.inl h17,Ac⟩ ?_
   refine BJ 25 ?_
   refine wo_toStr 0 (DV l.xs (at0+4) (((at0+4)+m) - (at0+4))) (some ⟨b9,o10,none⟩) (((at0+4)+m) - (at0+4)) (l.cap - (at0+4)) (old (fun b=>b=pr∨b=po) w) (some 87) [0,1,2] (Ol hB _ _) (fun w' hw=>by rw[show DV l.xs (at0+4) (((at0+4)+m) - (at0+4))=[]from List.eq_nil_of_length_eq_zero (by rw[IY (by omega)];omega)];exact PT _ _) (.inr rfl) ?_ (IY (by omega))
   refine Dx [0,6,87] [(Mc pr),(6,.int .u64 (m:Int)),(87,.string (strOf (DV l.xs (at0+4) (((at0+4)+m) - (at0+4)))))] ?_
   refine Bz [(26,o0)] [0,6,7] [] (Dh 27 0) [(Mc pr),(6,.int .u64 (m:Int)),(7,.string (strOf (DV l.xs (at0+4) (((at0+4)+m) - (at0+4)))))] Ac ?_
   refine C9 ?_
   refine q_o 10 0 [] [[o0,o0,o0,(a1 1),o0,o0,(a1 2),o0,(ov (Ae m)),(ov (i6 (((at0+4)+m:Nat):Int))),o0,o0,(a1 2)],[o0,o0]] [Qb pr,Qb po,Wr ((m:Int)) ((m:Int)),Wr ((((at0+4:Nat):Int):Int)+(m:Int)) ((((at0+4)+m:Nat):Int)),Qb po] [(4,.string (strOf (DV l.xs (at0+4) (((at0+4)+m) - (at0+4)))))] ⟨w,w6.heap.size,[(old (fun b=>b=pr∨b=po) w),(UJ po pr),(bk po #[.slice l.a l.xs.length l.cap,i6 (((at0+4)+m:Nat):Int)] 93)]⟩ rfl ⟨rfl,rfl,Bq rfl,Bq,rfl,Ac⟩ ?_
   refine AU [] [] (.string (strOf (DV l.xs (at0+4) (((at0+4)+m) - (at0+4))))) Ac ?_
   intro w18 hw18
   have hmn:(Az l.xs at0 4).toNat=m:=by omega
   refine⟨.inl ⟨by omega,by omega,by omega, ?_, ?_, ?_⟩,A7 hw18⟩
   ·rw[hmn];congr 4;omega
   ·exact hw18.at (i:=1) rfl
   rw[hmn];exact hw18.at (i:=2) rfl
  refine D5 27 [0,1,2] [(old (fun b=>b=pr∨b=po) w),(UJ po pr),(bk po #[.slice l.a l.xs.length l.cap,i6 ((at0+4:Nat):Int)] 93)] rfl rfl ?_
  refine Bz [(0,o0),(1,o0),(2,o0),(3,(a1 1)),(4,o0),(5,o0),(6,(DF 2 b9 o10 l)),(7,o0),(8,o0),(9,o0),(10,(a1 1)),(11,o0),(12,o0),(13,(a1 2)),(14,o0),(15,o0),(16,o0),(17,(a1 1)),(18,o0),(19,o0),(20,(a1 2)),(21,o0),(22,(ov (Ae m))),(23,(ov (i6 (((at0+4)+m:Nat):Int)))),(24,⟨.slc (at0+4) ((at0+4)+m) true,none⟩)] [0,6,86] [Qb pr,Qb po,Df b9 o10 l,Qb pr,Qb po,Qb pr,Qb po,Wr ((m:Int)) ((m:Int)),Wr ((((at0+4:Nat):Int):Int)+(m:Int)) ((((at0+4)+m:Nat):Int)),(((at0+4:Nat):Int):Int)=((at0+4:Nat):Int),((((at0+4)+m:Nat):Int):Int)=(((at0+4)+m:Nat):Int),at0+4≤(at0+4)+m,(at0+4)+m≤l.cap,l.cap≠at0+4,BG] (Dh 25 2) [(Mc pr),(6,.int .u64 (m:Int)),(86,.slice (some ⟨b9,o10+(EC 1 (at0+4)),none⟩) (((at0+4)+m) - (at0+4)) (l.cap - (at0+4)))] ⟨rfl,rfl,CZ ha11,rfl,rfl,rfl,rfl,Bq rfl,Bq,rfl,rfl,(by omega),(by omega),h17,rfl,Ac⟩ ?_
  refine BJ 25 ?_
  refine wo_toStr 0 (DV l.xs (at0+4) (((at0+4)+m) - (at0+4))) (some ⟨b9,o10+(EC 1 (at0+4)),none⟩) (((at0+4)+m) - (at0+4)) (l.cap - (at0+4)) (old (fun b=>b=pr∨b=po) w) (some 87) [0,1,2] (Ol hB _ _) (fun w' hw=>sl_sub (Bf (fun x _ _ hx hv=>BC hv hx.2 w' hw) (fun _ _=>trivial) (show BD Bh 1 (fun x=>x<w.heap.size∧¬ (x=pr∨x=po)) w ⟨some ⟨b9,o10,none⟩,l.cap,l.xs⟩from(by have h0:=hl;rw[show l=⟨l.a,l.cap,l.xs⟩from rfl,ha11]at h0;exact h0))) (by omega) (by intro h;have h9:=congrArg List.length h;rw[List.length_nil]at h9;omega)) (.inr rfl) ?_ (IY (by omega))
  refine Dx [0,6,87] [(Mc pr),(6,.int .u64 (m:Int)),(87,.string (strOf (DV l.xs (at0+4) (((at0+4)+m) - (at0+4)))))] ?_
  refine Bz [(26,o0)] [0,6,7] [] (Dh 27 0) [(Mc pr),(6,.int .u64 (m:Int)),(7,.string (strOf (DV l.xs (at0+4) (((at0+4)+m) - (at0+4)))))] Ac ?_
  refine C9 ?_
  refine q_o 10 0 [] [[o0,o0,o0,(a1 1),o0,o0,(a1 2),o0,(ov (Ae m)),(ov (i6 (((at0+4)+m:Nat):Int))),o0,o0,(a1 2)],[o0,o0]] [Qb pr,Qb po,Wr ((m:Int)) ((m:Int)),Wr ((((at0+4:Nat):Int):Int)+(m:Int)) ((((at0+4)+m:Nat):Int)),Qb po] [(4,.string (strOf (DV l.xs (at0+4) (((at0+4)+m) - (at0+4)))))] ⟨w,w6.heap.size,[(old (fun b=>b=pr∨b=po) w),(UJ po pr),(bk po #[.slice l.a l.xs.length l.cap,i6 (((at0+4)+m:Nat):Int)] 93)]⟩ rfl ⟨rfl,rfl,Bq rfl,Bq,rfl,Ac⟩ ?_
  refine AU [] [] (.string (strOf (DV l.xs (at0+4) (((at0+4)+m) - (at0+4))))) Ac ?_
  intro w19 hw19
  have hmn:(Az l.xs at0 4).toNat=m:=by omega
  refine⟨.inl ⟨by omega,by omega,by omega, ?_, ?_, ?_⟩,A7 hw19⟩
  ·rw[hmn];congr 4;omega
  ·exact hw19.at (i:=1) rfl
  rw[hmn];exact hw19.at (i:=2) rfl
 have hnw2:z≤w2.heap.size:=AB hw1 hkw2
 refine⟨_,_,rfl,Sat.pq2 hw1 [0] (i:=1) (j:=2) rfl rfl (by decide) rfl rfl rfl rfl hpw2 hrw2 hkw2, ?_⟩
 refine AC 27 0 [1,1] [[o0],[o0,o0,o0,(a1 1),o0,o0],[o0,o0,o0,(a1 1),o0],[o0,o0,o0,(a1 1),o0,o0,o0,(a1 2)],[o0]] [Qb pr,Qb pr,Qb pr,Qb po] [(4,.string (⟨#[]⟩))] rfl ⟨rfl,rfl,rfl,rfl,Ac⟩ ?_
 refine AU [] [] (.string (⟨#[]⟩)) Ac ?_
 intro w20 hw20
 exact⟨.inr ⟨by omega,rfl,12,by omega,by omega,by omega,hw20.at (i:=1) rfl,hw20.at (i:=2) rfl⟩,A7 hw20⟩
def Ug(e:Int)(at':Nat):List PanicEntry:=[{ v:= .iface 113 (.agg #[.int .i64 e,.int .i64 (at':Nat)]),recovered:=false }]
def Rk(w:World)(pr:Nat)(F:Nat→Prop)(b:List Int)(ok:Prop)(v:Value)(at0 at':Nat)(e:Ending)(w':World):Prop :=
 (ok∧e = .returned v∧BQ w' pr F b at' 0∧AV F w w')∨(¬ ok∧e = .panicked (Ug 110 at0)∧AV F w w')
theorem rtext_calls(w:World)(pr:Nat)(F:Nat→Prop)(b:List Int)(at0:Nat)(h:BQ w pr F b at0 0):Calls Try.prog 86 #[.pointer (some ⟨pr,0,none⟩),.int .i64 255] w fun e w'=>TextPost w pr F b at0 e w':=by
 have hR:=h
 obtain⟨po,l,rfl,h1,h2,h3,h4,h5,h6,h7,h8,h9,h10⟩:=h
 refine(rtext_walk w pr po l at0 h1 h2 (Bf (fun _ _ _ _ h=>h) (fun x hx=>⟨h10 x hx.1,fun h=>h.elim hx.2.1 hx.2.2⟩) h3) h4 h8 h9 h7).mono ?_
 rintro e w' ⟨⟨g1,g2,g3,g4,g5,g6⟩ | ⟨g1,g2,fl,k1,k2,k3,g3,g4⟩,g7⟩
 ·exact .inl ⟨g1,g2,g3,g4,VB hR g7 g5 g6 h4 h5 h6 h3 g3⟩
 exact .inr ⟨g1,g2,⟨fl,k1,k2,k3,(VB hR g7 g3 g4 h4 h5 h6 h3 h7).1⟩,(VB hR g7 g3 g4 h4 h5 h6 h3 h7).2⟩
section
variable {A:AW}{w:World}{i pr:Nat}{F:Nat→Prop}{b:List Int}{at0:Nat}{fl:Int}
theorem TM(h:Sat A w)(hi:A.σ[i]? = some (Bo pr F b at0 fl)):Calls Try.prog 58 #[.pointer (some ⟨pr,0,none⟩)] w fun e w'=>e = .returned (.int .i64 (at0:Nat))∧AV (fun _=>False) w w':=by
 obtain⟨po,l,rfl,h1,h2, -, -, -, -,h7, -,h9, -⟩:=h.at hi
 exact at_calls w pr po l at0 fl h1 h2 h7 h9
theorem left_sat(h:Sat A w)(hi:A.σ[i]? = some (Bo pr F b at0 fl)):Calls Try.prog 60 #[.pointer (some ⟨pr,0,none⟩)] w fun e w'=>e = .returned (.int .i64 ((b.length:Int) - (at0:Nat)))∧AV (fun _=>False) w w':=by
 obtain⟨po,l,rfl,h1,h2, -, -, -, -,h7, -,h9, -⟩:=h.at hi
 exact U1 w pr po l at0 fl h1 h2 h7 h9
theorem JB(h:Sat A w)(hi:A.σ[i]? = some (Bo pr F b at0 fl)):Calls Try.prog 79 #[.pointer (some ⟨pr,0,none⟩)] w fun e w'=>e = .returned (.int .i64 fl)∧AV (fun _=>False) w w':=by
 obtain⟨po,l,rfl,h1,h2, -, -, -, -,h7, -,h9, -⟩:=h.at hi
 exact fault_calls w pr po l at0 fl h1 h2 h7 h9
theorem Qc{j bx:Nat}{t:TypeId}(h:Sat A w)(hi:A.σ[i]? = some (Bo pr F b at0 fl))(hj:A.σ[j]? = some (.blk bx (.cells #[.pointer (some ⟨pr,0,none⟩)] t (0,0)) true))(hij:i≠j):(∀ k v,[Value.pointer (some ⟨pr,0,none⟩)][k]? = some v→w.cell? ⟨bx,0+k,none⟩=some v)∧bx<w.heap.size∧¬ F bx:=by
 have h1:At w bx (.cells #[.pointer (some ⟨pr,0,none⟩)] t (0,0)):=h.at hj
 refine⟨fun k v hv=>by rw[Nat.zero_add];exact h1.cell (by rw[←List.getElem?_toArray]at hv;exact hv),(Array.getElem?_eq_some_iff.1 h1).1,fun hF=>h.two hi hj hij rfl bx hF rfl⟩
end
theorem BZ{A:AW}{w w':World}{i pr:Nat}{F:Nat→Prop}{b:List Int}{at0:Nat}{fl:Int}{kept:List Ch}(h:Sat A w)(is:List Nat)(hi:A.σ[i]? = some (Bo pr F b at0 fl))(hnd:nodupB is=true)(hp:picks is A.σ=some kept)(hni:is.contains i=false)(hk:AV F w w'):Sat { A with n:=w'.heap.size,σ:=kept } w':=by
 have hpk:picks [i] A.σ=some [Bo pr F b at0 fl]:=by simp[picks,hi]
 have hS:=h.turn is [i] (new:=[]) hnd hp hpk (by
  rw[List.all_eq_true]
  intro q hq
  simp only[List.contains_cons,List.contains_nil,Bool.or_false,Bool.not_eq_true',beq_eq_false_iff_ne]
  intro e;subst e
  rw[List.contains_eq_mem]at hni
  simp[hq]at hni) (fun d hd=>by simp only[List.mem_singleton]at hd;subst hd;rfl) (w':=w') (hk.mono (fun b _ hb=>⟨_,List.mem_singleton_self _,hb⟩)) (by simp) (by simp)
 rw[List.append_nil]at hS
 exact hS
theorem Xg(w:World)(pr:Nat)(F:Nat→Prop)(b:List Int)(at0:Nat)(hr:BQ w pr F b at0 0):Calls Try.prog 67 #[.pointer (some ⟨pr,0,none⟩)] w fun e w'=>Yv w pr F b at0 4 .u32 e w':=by
 obtain⟨z,hz⟩:∃ z,z=w.heap.size:=⟨_,rfl⟩
 refine Bc (args:=[pt pr]) 6 ⟨w,z,[(old F w),(Bo pr F b at0 0)]⟩ Try.func67 rfl (by kernel_rfl) (by kernel_rfl) (hz ▸ FZ hr) ?_
 have hB:=hr.Nh;have hlen:=hr.len;have hat:=hr.le
 refine Bj [0] [(0,pt pr)] ?_
 refine Aw 6 1 [] [[o0],[o0]] [] [(3,pt pr)] rfl Ac ?_
 refine l_call [] [] 80 #[pt pr,i6 4] (some 4) Ac ?_
 intro w1 hw1
 refine(YW w1 pr F b at0 (hw1.at (i:=1) rfl) 4 ⟨by omega,by omega⟩).mono ?_
 rintro e w2 (⟨hqw2,rfl,hRw2,hkw2⟩ | ⟨hqw2,rfl,hRw2,hkw2⟩)
 ·have hvbw2:=Du hB at0
  obtain⟨hnw2,hSw2⟩:=CB hw1 (i:=1) rfl hRw2 hkw2
  have hnw2':z≤w2.heap.size:=hnw2
  refine⟨_,_,rfl,hSw2, ?_⟩
  refine AC 3 0 [] [[(ov (.int .u32 (Az b at0 4))),o0]] [Value.int .u32 (IntKind.u32.wrap ((Az b at0 4)))=Value.int .u32 ((Az b at0 4))] [(2,.int .u32 (Az b at0 4))] rfl ⟨congrArg (Value.int .u32) (Xv rfl (by omega) (by omega)),Ac⟩ ?_
  refine AU [] [] (.int .u32 (Az b at0 4)) Ac ?_
  intro w3 hw3
  exact .inl ⟨by omega,rfl,hw3.at (i:=1) rfl,A7 hw3⟩
 obtain⟨hnw2,hSw2⟩:=CB hw1 (i:=1) rfl hRw2 hkw2
 have hnw2':z≤w2.heap.size:=hnw2
 refine⟨_,_,rfl,hSw2, ?_⟩
 refine AC 3 0 [] [[o0,o0]] [] [(2,.int .u32 0)] rfl Ac ?_
 refine AU [] [] (.int .u32 0) Ac ?_
 intro w4 hw4
 exact .inr ⟨by omega,rfl,hw4.at (i:=1) rfl,A7 hw4⟩
theorem YN(w:World)(pr:Nat)(F:Nat→Prop)(b:List Int)(at0:Nat)(hr:BQ w pr F b at0 0):Calls Try.prog 95 #[.pointer (some ⟨pr,0,none⟩)] w fun e w'=>Yv w pr F b at0 1 .u8 e w':=by
 obtain⟨z,hz⟩:∃ z,z=w.heap.size:=⟨_,rfl⟩
 refine Bc (args:=[pt pr]) 6 ⟨w,z,[(old F w),(Bo pr F b at0 0)]⟩ Try.func95 rfl (by kernel_rfl) (by kernel_rfl) (hz ▸ FZ hr) ?_
 have hB:=hr.Nh;have hlen:=hr.len;have hat:=hr.le
 refine Bj [0] [(0,pt pr)] ?_
 refine Aw 6 1 [] [[o0],[o0]] [] [(3,pt pr)] rfl Ac ?_
 refine l_call [] [] 80 #[pt pr,i6 1] (some 4) Ac ?_
 intro w1 hw1
 refine(YW w1 pr F b at0 (hw1.at (i:=1) rfl) 1 ⟨by omega,by omega⟩).mono ?_
 rintro e w2 (⟨hqw2,rfl,hRw2,hkw2⟩ | ⟨hqw2,rfl,hRw2,hkw2⟩)
 ·have hvbw2:=Qo hB at0 1 1 (by omega);have hvew2:Az b at0 1=hv b at0 1 1:=rfl
  obtain⟨hnw2,hSw2⟩:=CB hw1 (i:=1) rfl hRw2 hkw2
  have hnw2':z≤w2.heap.size:=hnw2
  refine⟨_,_,rfl,hSw2, ?_⟩
  refine AC 3 0 [] [[(ov (.int .u8 (Az b at0 1))),o0]] [Value.int .u8 (IntKind.u8.wrap ((Az b at0 1)))=Value.int .u8 ((Az b at0 1))] [(2,.int .u8 (Az b at0 1))] rfl ⟨congrArg (Value.int .u8) (LP rfl (by omega) (by omega)),Ac⟩ ?_
  refine AU [] [] (.int .u8 (Az b at0 1)) Ac ?_
  intro w3 hw3
  exact .inl ⟨by omega,rfl,hw3.at (i:=1) rfl,A7 hw3⟩
 obtain⟨hnw2,hSw2⟩:=CB hw1 (i:=1) rfl hRw2 hkw2
 have hnw2':z≤w2.heap.size:=hnw2
 refine⟨_,_,rfl,hSw2, ?_⟩
 refine AC 3 0 [] [[o0,o0]] [] [(2,.int .u8 0)] rfl Ac ?_
 refine AU [] [] (.int .u8 0) Ac ?_
 intro w4 hw4
 exact .inr ⟨by omega,rfl,hw4.at (i:=1) rfl,A7 hw4⟩
theorem it_num(w:World)(pr:Nat)(F:Nat→Prop)(b:List Int)(at0:Nat)(hr:BQ w pr F b at0 0)(bx:Nat)(hbx:∀ k v,[Value.pointer (some ⟨pr,0,none⟩)][k]? = some v→w.cell? ⟨bx,0+k,none⟩=some v)(hbF:bx<w.heap.size∧¬ F bx):Calls Try.prog 65 #[.agg #[.pointer (some ⟨pr,0,none⟩)],.func (.func 75) #[] #[.pointer (some ⟨bx,0,none⟩)]] w fun e w'=>Rk w pr F b (at0+4≤b.length) (.int .i64 (Az b at0 4)) at0 (at0+4) e w':=by
 obtain⟨z,hz⟩:∃ z,z=w.heap.size:=⟨_,rfl⟩
 refine Bc (args:=[.agg #[pt pr],.func (.func 75) #[] #[pt bx]]) 28 ⟨w,z,[(old F w),(Bo pr F b at0 0)]⟩ Try.func65 rfl (by kernel_rfl) (by kernel_rfl) (hz ▸ FZ hr) ?_
 have hB:=hr.Nh;have hlen:=hr.len;have hat:=hr.le
 refine Bj [0,1] [(0,.agg #[pt pr]),(1,.func (.func 75) #[] #[pt bx])] ?_
 refine q_c 6 2 [] [[o0,o0],[o0,(a1 2)]] [Qb z] [(1,.func (.func 75) #[] #[pt bx]),(2,pt z),(9,pt pr)] ⟨w,z+1,[(old F w),(Bo pr F b at0 0),(bk z #[pt pr] 117)]⟩ rfl ⟨rfl,Ac⟩ ?_
 refine l_call [] [] 58 #[pt pr] (some 10) Ac ?_
 intro w1 hw1
 refine(TM hw1 (i:=1) rfl).mono ?_
 rintro e w2 ⟨rfl,hkw2⟩
 have hnw2:z+1≤w2.heap.size:=AB hw1 hkw2
 refine⟨_,_,rfl,hw1.keeps hkw2, ?_⟩
 refine AC 4 1 [] [[o0],[o0]] [] [(2,pt z),(5,Ae at0),(12,.func (.func 75) #[] #[pt bx])] rfl Ac ?_
 refine l_call [] [] 75 #[pt bx] (some 13) Ac ?_
 intro w3 hw3
 refine Bc (args:=[pt bx]) 7 ⟨w,w2.heap.size,[(old F w),(Bo pr F b at0 0),(bk z #[pt pr] 117)]⟩ Try.func75 rfl (by kernel_rfl) (by kernel_rfl) hw3 ?_
 refine Aw 6 2 [] [[o0,o0],[o0,(oa [.via 0 (pt pr)])]] [∀ w',Ch.holds (old F w) w'→w'.cell? ⟨bx,0,none⟩=some (pt pr)] [(4,pt pr)] rfl ⟨Dk (F:=F) hbF (hbx 0 _ rfl),Ac⟩ ?_
 refine l_call [] [] 67 #[pt pr] (some 5) Ac ?_
 intro w4 hw4
 refine(Xg w4 pr F b at0 (hw4.at (i:=1) rfl)).mono ?_
 rintro e w5 (⟨hqw5,rfl,hRw5,hkw5⟩ | ⟨hqw5,rfl,hRw5,hkw5⟩)
 ·have hvbw5:=Du hB at0
  obtain⟨hnw5,hSw5⟩:=CB hw4 (i:=1) rfl hRw5 hkw5
  have hnw5':w2.heap.size≤w5.heap.size:=hnw5
  refine⟨_,_,rfl,hSw5, ?_⟩
  refine AC 3 0 [] [[(ov (i6 (Az b at0 4))),o0,o0]] [Wr ((Az b at0 4)) ((Az b at0 4))] [(1,i6 (Az b at0 4)),(2,.bool true)] rfl ⟨Bq rfl,Ac⟩ ?_
  refine AU [] [] (.tuple #[i6 (Az b at0 4),.bool true]) Ac ?_
  intro w6 hw6
  refine⟨_,_,rfl,hw6, ?_⟩
  refine AC 5 5 [] [[o0,o0,o0,o0,o0],[o0,o0,o0,o0,(a1 2)]] [Qb z] [(5,Ae at0),(6,i6 (Az b at0 4)),(18,.bool false),(20,pt pr)] rfl ⟨rfl,Ac⟩ ?_
  refine l_call [] [] 79 #[pt pr] (some 21) Ac ?_
  intro w7 hw7
  refine(JB hw7 (i:=1) rfl).mono ?_
  rintro e w8 ⟨rfl,hkw8⟩
  have hnw8:w5.heap.size≤w8.heap.size:=AB hw7 hkw8
  refine⟨_,_,rfl,hw7.keeps hkw8, ?_⟩
  refine AC 10 0 [0] [[o0,o0],[o0,o0]] [] [(4,i6 (Az b at0 4))] rfl Ac ?_
  refine AU [] [] (i6 (Az b at0 4)) Ac ?_
  intro w9 hw9
  exact .inl ⟨by omega,rfl,hw9.at (i:=1) rfl,A7 hw9⟩
 obtain⟨hnw5,hSw5⟩:=CB hw4 (i:=1) rfl hRw5 hkw5
 have hnw5':w2.heap.size≤w5.heap.size:=hnw5
 refine⟨_,_,rfl,hSw5, ?_⟩
 refine AC 3 0 [] [[o0,o0,o0]] [] [(1,i6 0),(2,.bool true)] rfl Ac ?_
 refine AU [] [] (.tuple #[i6 0,.bool true]) Ac ?_
 intro w10 hw10
 refine⟨_,_,rfl,hw10, ?_⟩
 refine AC 5 5 [] [[o0,o0,o0,o0,o0],[o0,o0,o0,o0,(a1 2)]] [Qb z] [(5,Ae at0),(6,i6 0),(18,.bool false),(20,pt pr)] rfl ⟨rfl,Ac⟩ ?_
 refine l_call [] [] 79 #[pt pr] (some 21) Ac ?_
 intro w11 hw11
 refine(JB hw11 (i:=1) rfl).mono ?_
 rintro e w12 ⟨rfl,hkw12⟩
 have hnw12:w5.heap.size≤w12.heap.size:=AB hw11 hkw12
 refine⟨_,_,rfl,hw11.keeps hkw12, ?_⟩
 refine AC 4 3 [1] [[o0,o0],[o0,o0,o0]] [] [(6,i6 0),(26,.iface 113 (.agg #[i6 110,Ae at0]))] rfl Ac ?_
 refine G6 (.iface 113 (.agg #[i6 110,Ae at0])) ?_
 refine Ba ?_
 intro w13 hw13
 exact .inr ⟨by omega,rfl,A7 hw13⟩
theorem it_byte(w:World)(pr:Nat)(F:Nat→Prop)(b:List Int)(at0:Nat)(hr:BQ w pr F b at0 0)(bx:Nat)(hbx:∀ k v,[Value.pointer (some ⟨pr,0,none⟩)][k]? = some v→w.cell? ⟨bx,0+k,none⟩=some v)(hbF:bx<w.heap.size∧¬ F bx):Calls Try.prog 65 #[.agg #[.pointer (some ⟨pr,0,none⟩)],.func (.func 94) #[] #[.pointer (some ⟨bx,0,none⟩)]] w fun e w'=>Rk w pr F b (at0+1≤b.length) (.int .i64 (gd b at0)) at0 (at0+1) e w':=by
 obtain⟨z,hz⟩:∃ z,z=w.heap.size:=⟨_,rfl⟩
 refine Bc (args:=[.agg #[pt pr],.func (.func 94) #[] #[pt bx]]) 28 ⟨w,z,[(old F w),(Bo pr F b at0 0)]⟩ Try.func65 rfl (by kernel_rfl) (by kernel_rfl) (hz ▸ FZ hr) ?_
 have hB:=hr.Nh;have hlen:=hr.len;have hat:=hr.le
 refine Bj [0,1] [(0,.agg #[pt pr]),(1,.func (.func 94) #[] #[pt bx])] ?_
 refine q_c 6 2 [] [[o0,o0],[o0,(a1 2)]] [Qb z] [(1,.func (.func 94) #[] #[pt bx]),(2,pt z),(9,pt pr)] ⟨w,z+1,[(old F w),(Bo pr F b at0 0),(bk z #[pt pr] 117)]⟩ rfl ⟨rfl,Ac⟩ ?_
 refine l_call [] [] 58 #[pt pr] (some 10) Ac ?_
 intro w1 hw1
 refine(TM hw1 (i:=1) rfl).mono ?_
 rintro e w2 ⟨rfl,hkw2⟩
 have hnw2:z+1≤w2.heap.size:=AB hw1 hkw2
 refine⟨_,_,rfl,hw1.keeps hkw2, ?_⟩
 refine AC 4 1 [] [[o0],[o0]] [] [(2,pt z),(5,Ae at0),(12,.func (.func 94) #[] #[pt bx])] rfl Ac ?_
 refine l_call [] [] 94 #[pt bx] (some 13) Ac ?_
 intro w3 hw3
 refine Bc (args:=[pt bx]) 7 ⟨w,w2.heap.size,[(old F w),(Bo pr F b at0 0),(bk z #[pt pr] 117)]⟩ Try.func94 rfl (by kernel_rfl) (by kernel_rfl) hw3 ?_
 refine Aw 6 2 [] [[o0,o0],[o0,(oa [.via 0 (pt pr)])]] [∀ w',Ch.holds (old F w) w'→w'.cell? ⟨bx,0,none⟩=some (pt pr)] [(4,pt pr)] rfl ⟨Dk (F:=F) hbF (hbx 0 _ rfl),Ac⟩ ?_
 refine l_call [] [] 95 #[pt pr] (some 5) Ac ?_
 intro w4 hw4
 refine(YN w4 pr F b at0 (hw4.at (i:=1) rfl)).mono ?_
 rintro e w5 (⟨hqw5,rfl,hRw5,hkw5⟩ | ⟨hqw5,rfl,hRw5,hkw5⟩)
 ·have hvbw5:=Qo hB at0 1 1 (by omega);have hvew5:Az b at0 1=hv b at0 1 1:=rfl
  obtain⟨hnw5,hSw5⟩:=CB hw4 (i:=1) rfl hRw5 hkw5
  have hnw5':w2.heap.size≤w5.heap.size:=hnw5
  refine⟨_,_,rfl,hSw5, ?_⟩
  refine AC 3 0 [] [[(ov (i6 (Az b at0 1))),o0,o0]] [Wr ((Az b at0 1)) ((Az b at0 1))] [(1,i6 (Az b at0 1)),(2,.bool true)] rfl ⟨Bq rfl,Ac⟩ ?_
  refine AU [] [] (.tuple #[i6 (Az b at0 1),.bool true]) Ac ?_
  intro w6 hw6
  refine⟨_,_,rfl,hw6, ?_⟩
  refine AC 5 5 [] [[o0,o0,o0,o0,o0],[o0,o0,o0,o0,(a1 2)]] [Qb z] [(5,Ae at0),(6,i6 (Az b at0 1)),(18,.bool false),(20,pt pr)] rfl ⟨rfl,Ac⟩ ?_
  refine l_call [] [] 79 #[pt pr] (some 21) Ac ?_
  intro w7 hw7
  refine(JB hw7 (i:=1) rfl).mono ?_
  rintro e w8 ⟨rfl,hkw8⟩
  have hnw8:w5.heap.size≤w8.heap.size:=AB hw7 hkw8
  refine⟨_,_,rfl,hw7.keeps hkw8, ?_⟩
  refine AC 10 0 [0] [[o0,o0],[o0,o0]] [] [(4,i6 (Az b at0 1))] rfl Ac ?_
  refine AU [] [] (i6 (Az b at0 1)) Ac ?_
  intro w9 hw9
  exact .inl ⟨by omega,by rw[Ky],hw9.at (i:=1) rfl,A7 hw9⟩
 obtain⟨hnw5,hSw5⟩:=CB hw4 (i:=1) rfl hRw5 hkw5
 have hnw5':w2.heap.size≤w5.heap.size:=hnw5
 refine⟨_,_,rfl,hSw5, ?_⟩
 refine AC 3 0 [] [[o0,o0,o0]] [] [(1,i6 0),(2,.bool true)] rfl Ac ?_
 refine AU [] [] (.tuple #[i6 0,.bool true]) Ac ?_
 intro w10 hw10
 refine⟨_,_,rfl,hw10, ?_⟩
 refine AC 5 5 [] [[o0,o0,o0,o0,o0],[o0,o0,o0,o0,(a1 2)]] [Qb z] [(5,Ae at0),(6,i6 0),(18,.bool false),(20,pt pr)] rfl ⟨rfl,Ac⟩ ?_
 refine l_call [] [] 79 #[pt pr] (some 21) Ac ?_
 intro w11 hw11
 refine(JB hw11 (i:=1) rfl).mono ?_
 rintro e w12 ⟨rfl,hkw12⟩
 have hnw12:w5.heap.size≤w12.heap.size:=AB hw11 hkw12
 refine⟨_,_,rfl,hw11.keeps hkw12, ?_⟩
 refine AC 4 3 [1] [[o0,o0],[o0,o0,o0]] [] [(6,i6 0),(26,.iface 113 (.agg #[i6 110,Ae at0]))] rfl Ac ?_
 refine G6 (.iface 113 (.agg #[i6 110,Ae at0])) ?_
 refine Ba ?_
 intro w13 hw13
 exact .inr ⟨by omega,rfl,A7 hw13⟩
theorem it_mark(w:World)(pr:Nat)(F:Nat→Prop)(b:List Int)(at0:Nat)(hr:BQ w pr F b at0 0)(bx:Nat)(hbx:∀ k v,[Value.pointer (some ⟨pr,0,none⟩)][k]? = some v→w.cell? ⟨bx,0+k,none⟩=some v)(hbF:bx<w.heap.size∧¬ F bx):Calls Try.prog 65 #[.agg #[.pointer (some ⟨pr,0,none⟩)],.func (.func 66) #[] #[.pointer (some ⟨bx,0,none⟩)]] w fun e w'=>Rk w pr F b (at0+4≤b.length∧Az b at0 4=826493762) (.int .i64 0) at0 (at0+4) e w':=by
 obtain⟨z,hz⟩:∃ z,z=w.heap.size:=⟨_,rfl⟩
 refine Bc (args:=[.agg #[pt pr],.func (.func 66) #[] #[pt bx]]) 28 ⟨w,z,[(old F w),(Bo pr F b at0 0)]⟩ Try.func65 rfl (by kernel_rfl) (by kernel_rfl) (hz ▸ FZ hr) ?_
 have hB:=hr.Nh;have hlen:=hr.len;have hat:=hr.le
 refine Bj [0,1] [(0,.agg #[pt pr]),(1,.func (.func 66) #[] #[pt bx])] ?_
 refine q_c 6 2 [] [[o0,o0],[o0,(a1 2)]] [Qb z] [(1,.func (.func 66) #[] #[pt bx]),(2,pt z),(9,pt pr)] ⟨w,z+1,[(old F w),(Bo pr F b at0 0),(bk z #[pt pr] 117)]⟩ rfl ⟨rfl,Ac⟩ ?_
 refine l_call [] [] 58 #[pt pr] (some 10) Ac ?_
 intro w1 hw1
 refine(TM hw1 (i:=1) rfl).mono ?_
 rintro e w2 ⟨rfl,hkw2⟩
 have hnw2:z+1≤w2.heap.size:=AB hw1 hkw2
 refine⟨_,_,rfl,hw1.keeps hkw2, ?_⟩
 refine AC 4 1 [] [[o0],[o0]] [] [(2,pt z),(5,Ae at0),(12,.func (.func 66) #[] #[pt bx])] rfl Ac ?_
 refine l_call [] [] 66 #[pt bx] (some 13) Ac ?_
 intro w3 hw3
 refine Bc (args:=[pt bx]) 7 ⟨w,w2.heap.size,[(old F w),(Bo pr F b at0 0),(bk z #[pt pr] 117)]⟩ Try.func66 rfl (by kernel_rfl) (by kernel_rfl) hw3 ?_
 refine Aw 6 2 [] [[o0,o0],[o0,(oa [.via 0 (pt pr)])]] [∀ w',Ch.holds (old F w) w'→w'.cell? ⟨bx,0,none⟩=some (pt pr)] [(4,pt pr)] rfl ⟨Dk (F:=F) hbF (hbx 0 _ rfl),Ac⟩ ?_
 refine l_call [] [] 67 #[pt pr] (some 5) Ac ?_
 intro w4 hw4
 refine(Xg w4 pr F b at0 (hw4.at (i:=1) rfl)).mono ?_
 rintro e w5 (⟨hqw5,rfl,hRw5,hkw5⟩ | ⟨hqw5,rfl,hRw5,hkw5⟩)
 ·have hvbw5:=Du hB at0
  obtain⟨hnw5,hSw5⟩:=CB hw4 (i:=1) rfl hRw5 hkw5
  have hnw5':w2.heap.size≤w5.heap.size:=hnw5
  refine⟨_,_,rfl,hSw5, ?_⟩
  refine DX [5] [(5,.int .u32 (Az b at0 4))] ?_
  by_cases h6:((Az b at0 4):Int)=826493762
  ·refine AC 3 0 [] [[oT,o0,o0]] [ET (Az b at0 4) 826493762] [(1,i6 0),(2,.bool true)] rfl ⟨et,Ac⟩ ?_
   refine AU [] [] (.tuple #[i6 0,.bool true]) Ac ?_
   intro w7 hw7
   refine⟨_,_,rfl,hw7, ?_⟩
   refine AC 5 5 [] [[o0,o0,o0,o0,o0],[o0,o0,o0,o0,(a1 2)]] [Qb z] [(5,Ae at0),(6,i6 0),(18,.bool false),(20,pt pr)] rfl ⟨rfl,Ac⟩ ?_
   refine l_call [] [] 79 #[pt pr] (some 21) Ac ?_
   intro w8 hw8
   refine(JB hw8 (i:=1) rfl).mono ?_
   rintro e w9 ⟨rfl,hkw9⟩
   have hnw9:w5.heap.size≤w9.heap.size:=AB hw8 hkw9
   refine⟨_,_,rfl,hw8.keeps hkw9, ?_⟩
   refine AC 10 0 [0] [[o0,o0],[o0,o0]] [] [(4,i6 0)] rfl Ac ?_
   refine AU [] [] (i6 0) Ac ?_
   intro w10 hw10
   exact .inl ⟨by omega,rfl,hw10.at (i:=1) rfl,A7 hw10⟩
  refine AC 3 0 [] [[oF,o0,o0]] [EF (Az b at0 4) 826493762] [(1,i6 0),(2,.bool false)] rfl ⟨ef,Ac⟩ ?_
  refine AU [] [] (.tuple #[i6 0,.bool false]) Ac ?_
  intro w11 hw11
  refine⟨_,_,rfl,hw11, ?_⟩
  refine AC 9 3 [1] [[o0,o0,o0,o0,o0],[o0,o0,o0,o0],[o0,o0,o0]] [] [(6,i6 0),(26,.iface 113 (.agg #[i6 110,Ae at0]))] rfl Ac ?_
  refine G6 (.iface 113 (.agg #[i6 110,Ae at0])) ?_
  refine Ba ?_
  intro w12 hw12
  exact .inr ⟨by omega,rfl,A7 hw12⟩
 obtain⟨hnw5,hSw5⟩:=CB hw4 (i:=1) rfl hRw5 hkw5
 have hnw5':w2.heap.size≤w5.heap.size:=hnw5
 refine⟨_,_,rfl,hSw5, ?_⟩
 refine AC 3 0 [] [[o0,o0,o0]] [] [(1,i6 0),(2,.bool false)] rfl Ac ?_
 refine AU [] [] (.tuple #[i6 0,.bool false]) Ac ?_
 intro w13 hw13
 refine⟨_,_,rfl,hw13, ?_⟩
 refine AC 9 3 [1] [[o0,o0,o0,o0,o0],[o0,o0,o0,o0],[o0,o0,o0]] [] [(6,i6 0),(26,.iface 113 (.agg #[i6 110,Ae at0]))] rfl Ac ?_
 refine G6 (.iface 113 (.agg #[i6 110,Ae at0])) ?_
 refine Ba ?_
 intro w14 hw14
 exact .inr ⟨by omega,rfl,A7 hw14⟩
theorem it_src(w:World)(pr:Nat)(F:Nat→Prop)(b:List Int)(at0:Nat)(hr:BQ w pr F b at0 0)(bx:Nat)(hbx:∀ k v,[Value.pointer (some ⟨pr,0,none⟩)][k]? = some v→w.cell? ⟨bx,0+k,none⟩=some v)(hbF:bx<w.heap.size∧¬ F bx):Calls Try.prog 96 #[.agg #[.pointer (some ⟨pr,0,none⟩)],.func (.func 97) #[] #[.pointer (some ⟨bx,0,none⟩)]] w fun e w'=>Rk w pr F b (at0+1≤b.length∧gd b at0≤1) (.bool (decide (gd b at0=1))) at0 (at0+1) e w':=by
 obtain⟨z,hz⟩:∃ z,z=w.heap.size:=⟨_,rfl⟩
 refine Bc (args:=[.agg #[pt pr],.func (.func 97) #[] #[pt bx]]) 28 ⟨w,z,[(old F w),(Bo pr F b at0 0)]⟩ Try.func96 rfl (by kernel_rfl) (by kernel_rfl) (hz ▸ FZ hr) ?_
 have hB:=hr.Nh;have hlen:=hr.len;have hat:=hr.le
 refine Bj [0,1] [(0,.agg #[pt pr]),(1,.func (.func 97) #[] #[pt bx])] ?_
 refine q_c 6 2 [] [[o0,o0],[o0,(a1 2)]] [Qb z] [(1,.func (.func 97) #[] #[pt bx]),(2,pt z),(9,pt pr)] ⟨w,z+1,[(old F w),(Bo pr F b at0 0),(bk z #[pt pr] 117)]⟩ rfl ⟨rfl,Ac⟩ ?_
 refine l_call [] [] 58 #[pt pr] (some 10) Ac ?_
 intro w1 hw1
 refine(TM hw1 (i:=1) rfl).mono ?_
 rintro e w2 ⟨rfl,hkw2⟩
 have hnw2:z+1≤w2.heap.size:=AB hw1 hkw2
 refine⟨_,_,rfl,hw1.keeps hkw2, ?_⟩
 refine AC 4 1 [] [[o0],[o0]] [] [(2,pt z),(5,Ae at0),(12,.func (.func 97) #[] #[pt bx])] rfl Ac ?_
 refine l_call [] [] 97 #[pt bx] (some 13) Ac ?_
 intro w3 hw3
 refine Bc (args:=[pt bx]) 11 ⟨w,w2.heap.size,[(old F w),(Bo pr F b at0 0),(bk z #[pt pr] 117)]⟩ Try.func97 rfl (by kernel_rfl) (by kernel_rfl) hw3 ?_
 refine Aw 6 2 [] [[o0,o0],[o0,(oa [.via 0 (pt pr)])]] [∀ w',Ch.holds (old F w) w'→w'.cell? ⟨bx,0,none⟩=some (pt pr)] [(5,pt pr)] rfl ⟨Dk (F:=F) hbF (hbx 0 _ rfl),Ac⟩ ?_
 refine l_call [] [] 95 #[pt pr] (some 6) Ac ?_
 intro w4 hw4
 refine(YN w4 pr F b at0 (hw4.at (i:=1) rfl)).mono ?_
 rintro e w5 (⟨hqw5,rfl,hRw5,hkw5⟩ | ⟨hqw5,rfl,hRw5,hkw5⟩)
 ·have hvbw5:=Qo hB at0 1 1 (by omega);have hvew5:Az b at0 1=hv b at0 1 1:=rfl
  obtain⟨hnw5,hSw5⟩:=CB hw4 (i:=1) rfl hRw5 hkw5
  have hnw5':w2.heap.size≤w5.heap.size:=hnw5
  refine⟨_,_,rfl,hSw5, ?_⟩
  refine AC 3 0 [] [[o0]] [] [(3,.int .u8 (Az b at0 1))] rfl Ac ?_
  by_cases h6:((Az b at0 1):Int)=1
  ·by_cases h7:(1:Int)<(Az b at0 1)
   ·refine Aw 4 0 [] [[o0,oT,o0,oF,o0,o0]] [ET (Az b at0 1) 1,BF (((Az b at0 1):Int)≤1)] [(1,.bool true),(2,.bool false)] rfl ⟨et,bf,Ac⟩ ?_
    refine AU [] [] (.tuple #[.bool true,.bool false]) Ac ?_
    intro w8 hw8
    refine⟨_,_,rfl,hw8, ?_⟩
    refine AC 9 3 [1] [[o0,o0,o0,o0,o0],[o0,o0,o0,o0],[o0,o0,o0]] [] [(6,.bool true),(26,.iface 113 (.agg #[i6 110,Ae at0]))] rfl Ac ?_
    refine G6 (.iface 113 (.agg #[i6 110,Ae at0])) ?_
    refine Ba ?_
    intro w9 hw9
    exact .inr ⟨by have hl1:=Ky (b:=b) at0;omega,rfl,A7 hw9⟩
   refine Aw 4 0 [] [[o0,oT,o0,oT,o0,o0]] [ET (Az b at0 1) 1,BT (((Az b at0 1):Int)≤1)] [(1,.bool true),(2,.bool true)] rfl ⟨et,bt,Ac⟩ ?_
   refine AU [] [] (.tuple #[.bool true,.bool true]) Ac ?_
   intro w10 hw10
   refine⟨_,_,rfl,hw10, ?_⟩
   refine AC 5 5 [] [[o0,o0,o0,o0,o0],[o0,o0,o0,o0,(a1 2)]] [Qb z] [(5,Ae at0),(6,.bool true),(18,.bool false),(20,pt pr)] rfl ⟨rfl,Ac⟩ ?_
   refine l_call [] [] 79 #[pt pr] (some 21) Ac ?_
   intro w11 hw11
   refine(JB hw11 (i:=1) rfl).mono ?_
   rintro e w12 ⟨rfl,hkw12⟩
   have hnw12:w5.heap.size≤w12.heap.size:=AB hw11 hkw12
   refine⟨_,_,rfl,hw11.keeps hkw12, ?_⟩
   refine AC 10 0 [0] [[o0,o0],[o0,o0]] [] [(4,.bool true)] rfl Ac ?_
   refine AU [] [] (.bool true) Ac ?_
   intro w13 hw13
   have hl1:=Ky (b:=b) at0
   exact .inl ⟨by omega,congrArg (fun x=>Ending.returned (Value.bool x)) (Eq.symm (decide_eq_true (by omega))),hw13.at (i:=1) rfl,A7 hw13⟩
  by_cases h14:(1:Int)<(Az b at0 1)
  ·refine Aw 4 0 [] [[o0,oF,o0,oF,o0,o0]] [EF (Az b at0 1) 1,BF (((Az b at0 1):Int)≤1)] [(1,.bool false),(2,.bool false)] rfl ⟨ef,bf,Ac⟩ ?_
   refine AU [] [] (.tuple #[.bool false,.bool false]) Ac ?_
   intro w15 hw15
   refine⟨_,_,rfl,hw15, ?_⟩
   refine AC 9 3 [1] [[o0,o0,o0,o0,o0],[o0,o0,o0,o0],[o0,o0,o0]] [] [(6,.bool false),(26,.iface 113 (.agg #[i6 110,Ae at0]))] rfl Ac ?_
   refine G6 (.iface 113 (.agg #[i6 110,Ae at0])) ?_
   refine Ba ?_
   intro w16 hw16
   exact .inr ⟨by have hl1:=Ky (b:=b) at0;omega,rfl,A7 hw16⟩
  refine Aw 4 0 [] [[o0,oF,o0,oT,o0,o0]] [EF (Az b at0 1) 1,BT (((Az b at0 1):Int)≤1)] [(1,.bool false),(2,.bool true)] rfl ⟨ef,bt,Ac⟩ ?_
  refine AU [] [] (.tuple #[.bool false,.bool true]) Ac ?_
  intro w17 hw17
  refine⟨_,_,rfl,hw17, ?_⟩
  refine AC 5 5 [] [[o0,o0,o0,o0,o0],[o0,o0,o0,o0,(a1 2)]] [Qb z] [(5,Ae at0),(6,.bool false),(18,.bool false),(20,pt pr)] rfl ⟨rfl,Ac⟩ ?_
  refine l_call [] [] 79 #[pt pr] (some 21) Ac ?_
  intro w18 hw18
  refine(JB hw18 (i:=1) rfl).mono ?_
  rintro e w19 ⟨rfl,hkw19⟩
  have hnw19:w5.heap.size≤w19.heap.size:=AB hw18 hkw19
  refine⟨_,_,rfl,hw18.keeps hkw19, ?_⟩
  refine AC 10 0 [0] [[o0,o0],[o0,o0]] [] [(4,.bool false)] rfl Ac ?_
  refine AU [] [] (.bool false) Ac ?_
  intro w20 hw20
  have hl1:=Ky (b:=b) at0
  exact .inl ⟨by omega,congrArg (fun x=>Ending.returned (Value.bool x)) (Eq.symm (decide_eq_false (by omega))),hw20.at (i:=1) rfl,A7 hw20⟩
 obtain⟨hnw5,hSw5⟩:=CB hw4 (i:=1) rfl hRw5 hkw5
 have hnw5':w2.heap.size≤w5.heap.size:=hnw5
 refine⟨_,_,rfl,hSw5, ?_⟩
 refine AC 7 0 [] [[o0],[o0,o0,o0,o0,o0,o0]] [] [(1,.bool false),(2,.bool true)] rfl Ac ?_
 refine AU [] [] (.tuple #[.bool false,.bool true]) Ac ?_
 intro w21 hw21
 refine⟨_,_,rfl,hw21, ?_⟩
 refine AC 5 5 [] [[o0,o0,o0,o0,o0],[o0,o0,o0,o0,(a1 2)]] [Qb z] [(5,Ae at0),(6,.bool false),(18,.bool false),(20,pt pr)] rfl ⟨rfl,Ac⟩ ?_
 refine l_call [] [] 79 #[pt pr] (some 21) Ac ?_
 intro w22 hw22
 refine(JB hw22 (i:=1) rfl).mono ?_
 rintro e w23 ⟨rfl,hkw23⟩
 have hnw23:w5.heap.size≤w23.heap.size:=AB hw22 hkw23
 refine⟨_,_,rfl,hw22.keeps hkw23, ?_⟩
 refine AC 4 3 [1] [[o0,o0],[o0,o0,o0]] [] [(6,.bool false),(26,.iface 113 (.agg #[i6 110,Ae at0]))] rfl Ac ?_
 refine G6 (.iface 113 (.agg #[i6 110,Ae at0])) ?_
 refine Ba ?_
 intro w24 hw24
 exact .inr ⟨by have hl1:=Ky (b:=b) at0;omega,rfl,A7 hw24⟩
theorem it_text(w:World)(pr:Nat)(F:Nat→Prop)(b:List Int)(at0:Nat)(hr:BQ w pr F b at0 0)(bx:Nat)(hbx:∀ k v,[Value.pointer (some ⟨pr,0,none⟩)][k]? = some v→w.cell? ⟨bx,0+k,none⟩=some v)(hbF:bx<w.heap.size∧¬ F bx):Calls Try.prog 84 #[.agg #[.pointer (some ⟨pr,0,none⟩)],.func (.func 85) #[] #[.pointer (some ⟨bx,0,none⟩)]] w fun e w'=>Rk w pr F b (at0+4≤b.length∧Az b at0 4≤255∧at0+4+(Az b at0 4).toNat≤b.length) (.string (strOf (DV b (at0+4) (Az b at0 4).toNat))) at0 (at0+4+(Az b at0 4).toNat) e w':=by
 obtain⟨z,hz⟩:∃ z,z=w.heap.size:=⟨_,rfl⟩
 refine Bc (args:=[.agg #[pt pr],.func (.func 85) #[] #[pt bx]]) 28 ⟨w,z,[(old F w),(Bo pr F b at0 0)]⟩ Try.func84 rfl (by kernel_rfl) (by kernel_rfl) (hz ▸ FZ hr) ?_
 have hB:=hr.Nh;have hlen:=hr.len;have hat:=hr.le
 refine Bj [0,1] [(0,.agg #[pt pr]),(1,.func (.func 85) #[] #[pt bx])] ?_
 refine q_c 6 2 [] [[o0,o0],[o0,(a1 2)]] [Qb z] [(1,.func (.func 85) #[] #[pt bx]),(2,pt z),(9,pt pr)] ⟨w,z+1,[(old F w),(Bo pr F b at0 0),(bk z #[pt pr] 117)]⟩ rfl ⟨rfl,Ac⟩ ?_
 refine l_call [] [] 58 #[pt pr] (some 10) Ac ?_
 intro w1 hw1
 refine(TM hw1 (i:=1) rfl).mono ?_
 rintro e w2 ⟨rfl,hkw2⟩
 have hnw2:z+1≤w2.heap.size:=AB hw1 hkw2
 refine⟨_,_,rfl,hw1.keeps hkw2, ?_⟩
 refine AC 4 1 [] [[o0],[o0]] [] [(2,pt z),(5,Ae at0),(12,.func (.func 85) #[] #[pt bx])] rfl Ac ?_
 refine l_call [] [] 85 #[pt bx] (some 13) Ac ?_
 intro w3 hw3
 refine Bc (args:=[pt bx]) 6 ⟨w,w2.heap.size,[(old F w),(Bo pr F b at0 0),(bk z #[pt pr] 117)]⟩ Try.func85 rfl (by kernel_rfl) (by kernel_rfl) hw3 ?_
 refine Aw 6 2 [] [[o0,o0],[o0,(oa [.via 0 (pt pr)])]] [∀ w',Ch.holds (old F w) w'→w'.cell? ⟨bx,0,none⟩=some (pt pr)] [(4,pt pr)] rfl ⟨Dk (F:=F) hbF (hbx 0 _ rfl),Ac⟩ ?_
 refine l_call [] [] 86 #[pt pr,i6 255] (some 5) Ac ?_
 intro w4 hw4
 refine(rtext_calls w4 pr F b at0 (hw4.at (i:=1) rfl)).mono ?_
 rintro e w5 (⟨hqw5,hqw5b,hqw5c,rfl,hRw5,hkw5⟩ | ⟨hqw5,rfl,⟨flw5,hfw5,hfw5b,hfw5c,hRw5⟩,hkw5⟩)
 ·obtain⟨hnw5,hSw5⟩:=CB hw4 (i:=1) rfl hRw5 hkw5
  have hnw5':w2.heap.size≤w5.heap.size:=hnw5
  refine⟨_,_,rfl,hSw5, ?_⟩
  refine AC 3 0 [] [[o0,o0]] [] [(1,.string (strOf (DV b (at0+4) (Az b at0 4).toNat))),(2,.bool true)] rfl Ac ?_
  refine AU [] [] (.tuple #[.string (strOf (DV b (at0+4) (Az b at0 4).toNat)),.bool true]) Ac ?_
  intro w6 hw6
  refine⟨_,_,rfl,hw6, ?_⟩
  refine AC 5 5 [] [[o0,o0,o0,o0,o0],[o0,o0,o0,o0,(a1 2)]] [Qb z] [(5,Ae at0),(6,.string (strOf (DV b (at0+4) (Az b at0 4).toNat))),(18,.bool false),(20,pt pr)] rfl ⟨rfl,Ac⟩ ?_
  refine l_call [] [] 79 #[pt pr] (some 21) Ac ?_
  intro w7 hw7
  refine(JB hw7 (i:=1) rfl).mono ?_
  rintro e w8 ⟨rfl,hkw8⟩
  have hnw8:w5.heap.size≤w8.heap.size:=AB hw7 hkw8
  refine⟨_,_,rfl,hw7.keeps hkw8, ?_⟩
  refine AC 10 0 [0] [[o0,o0],[o0,o0]] [] [(4,.string (strOf (DV b (at0+4) (Az b at0 4).toNat)))] rfl Ac ?_
  refine AU [] [] (.string (strOf (DV b (at0+4) (Az b at0 4).toNat))) Ac ?_
  intro w9 hw9
  exact .inl ⟨by omega,rfl,hw9.at (i:=1) rfl,A7 hw9⟩
 obtain⟨hnw5,hSw5⟩:=CB hw4 (i:=1) rfl hRw5 hkw5
 have hnw5':w2.heap.size≤w5.heap.size:=hnw5
 refine⟨_,_,rfl,hSw5, ?_⟩
 refine AC 3 0 [] [[o0,o0]] [] [(1,.string (⟨#[]⟩)),(2,.bool true)] rfl Ac ?_
 refine AU [] [] (.tuple #[.string (⟨#[]⟩),.bool true]) Ac ?_
 intro w10 hw10
 refine⟨_,_,rfl,hw10, ?_⟩
 refine AC 5 5 [] [[o0,o0,o0,o0,o0],[o0,o0,o0,o0,(a1 2)]] [Qb z] [(5,Ae at0),(6,.string (⟨#[]⟩)),(18,.bool false),(20,pt pr)] rfl ⟨rfl,Ac⟩ ?_
 refine l_call [] [] 79 #[pt pr] (some 21) Ac ?_
 intro w11 hw11
 refine(JB hw11 (i:=1) rfl).mono ?_
 rintro e w12 ⟨rfl,hkw12⟩
 have hnw12:w5.heap.size≤w12.heap.size:=AB hw11 hkw12
 refine⟨_,_,rfl,hw11.keeps hkw12, ?_⟩
 refine AC 4 3 [1] [[oT,o0],[o0,o0,o0]] [NT flw5 0] [(6,.string (⟨#[]⟩)),(26,.iface 113 (.agg #[i6 110,Ae at0]))] rfl ⟨nt,Ac⟩ ?_
 refine G6 (.iface 113 (.agg #[i6 110,Ae at0])) ?_
 refine Ba ?_
 intro w13 hw13
 exact .inr ⟨by omega,rfl,A7 hw13⟩
def numAt(b:List Int)(a:Nat):PR Int:=if a+4≤b.length then .ok (Az b a 4) (a+4)else .no a
def byteAt(b:List Int)(a:Nat):PR Int:=if a+1≤b.length then .ok (gd b a) (a+1)else .no a
def QG(b:List Int)(a:Nat):PR Bool:=if a+1≤b.length∧gd b a≤1 then .ok (decide (gd b a=1)) (a+1)else .no a
def Px(b:List Int)(a:Nat):PR ByteArray:=if a+4≤b.length∧Az b a 4≤255∧a+4+(Az b a 4).toNat≤b.length then .ok (strOf (DV b (a+4) (Az b a 4).toNat)) (a+4+(Az b a 4).toNat)else .no a
theorem AZ{b:List Int}{a:Nat}(h:a+4≤b.length):numAt b a = .ok (Az b a 4) (a+4):=if_pos h
theorem DU{b:List Int}{a:Nat}(h:¬ a+4≤b.length):numAt b a = .no a:=if_neg h
theorem SI{b:List Int}{a:Nat}(h:a+1≤b.length):byteAt b a = .ok (gd b a) (a+1):=if_pos h
theorem YX{b:List Int}{a:Nat}(h:¬ a+1≤b.length):byteAt b a = .no a:=if_neg h
theorem RZ{b:List Int}{a:Nat}(h:a+1≤b.length∧gd b a≤1):QG b a = .ok (decide (gd b a=1)) (a+1):=if_pos h
theorem Xd{b:List Int}{a:Nat}(h:¬ (a+1≤b.length∧gd b a≤1)):QG b a = .no a:=if_neg h
theorem J9{b:List Int}{a:Nat}(h:a+4≤b.length∧Az b a 4≤255∧a+4+(Az b a 4).toNat≤b.length):Px b a = .ok (strOf (DV b (a+4) (Az b a 4).toNat)) (a+4+(Az b a 4).toNat):=if_pos h
theorem SG{b:List Int}{a:Nat}(h:¬ (a+4≤b.length∧Az b a 4≤255∧a+4+(Az b a 4).toNat≤b.length)):Px b a = .no a:=if_neg h
def J7(b:List Int)(a:Nat):PR Af:=(numAt b a).bind fun p a=>(numAt b a).bind fun u a=>(numAt b a).bind fun s a=> .ok ⟨p - 1,u,s⟩ a
def KR(b:List Int)(a:Nat):PR Ak:=(numAt b a).bind fun p a=>(numAt b a).bind fun k a=>(numAt b a).bind fun f a=>(numAt b a).bind fun r a=> .ok ⟨p,k,f,r⟩ a
def KL(b:List Int)(a:Nat):PR Ap:=(numAt b a).bind fun c a=>(QG b a).bind fun s a=> .ok ⟨c,s⟩ a
def H9(b:List Int)(a:Nat):PR Ar:=(numAt b a).bind fun k a=>(numAt b a).bind fun w a=>(numAt b a).bind fun d a=> .ok ⟨k,w,d⟩ a
def Zv{α:Type}(w:World)(pr:Nat)(F:Nat→Prop)(b:List Int)(r:PR α)(val:α→Value)(e:Ending)(w':World):Prop :=
 (∃ x a,r = .ok x a∧e = .returned (val x)∧BQ w' pr F b a 0∧AV F w w')∨(∃ p,r = .no p∧e = .panicked (Ug 110 p)∧AV F w w')
theorem FD{α β:Type}{r:PR α}{f:α→Nat→PR β}{y:β}{a2:Nat}(h:r.bind f = .ok y a2):∃ x a,r = .ok x a∧f x a = .ok y a2:=by
 cases r with
 | ok x a=>exact⟨x,a,rfl,h⟩
 | no a=>cases h
theorem IP{b:List Int}{a a2:Nat}{n:Int}(h:numAt b a = .ok n a2):a+4≤b.length∧n=Az b a 4∧a2=a+4:=by
 unfold numAt at h
 split at h
 ·rename_i h1;cases h;exact⟨h1,rfl,rfl⟩
 cases h
theorem Zc{b:List Int}{a a2:Nat}{n:Int}(h:byteAt b a = .ok n a2):a+1≤b.length∧n=gd b a∧a2=a+1:=by
 unfold byteAt at h
 split at h
 ·rename_i h1;cases h;exact⟨h1,rfl,rfl⟩
 cases h
theorem srcAt_of{b:List Int}{a a2:Nat}{n:Bool}(h:QG b a = .ok n a2):(a+1≤b.length∧gd b a≤1)∧n=decide (gd b a=1)∧a2=a+1:=by
 unfold QG at h
 split at h
 ·rename_i h1;cases h;exact⟨h1,rfl,rfl⟩
 cases h
theorem textAt_of{b:List Int}{a a2:Nat}{n:ByteArray}(h:Px b a = .ok n a2):(a+4≤b.length∧Az b a 4≤255∧a+4+(Az b a 4).toNat≤b.length)∧n=strOf (DV b (a+4) (Az b a 4).toNat)∧a2=a+4+(Az b a 4).toNat:=by
 unfold Px at h
 split at h
 ·rename_i h1;cases h;exact⟨h1,rfl,rfl⟩
 cases h
theorem winAt_rng{b:List Int}(hB:Ef b){a a2:Nat}{x:Af}(h:J7 b a = .ok x a2):0 - 1≤x.Partition∧x.Partition≤4294967294∧0≤x.Cc∧x.Cc≤4294967295∧0≤x.Dy∧x.Dy≤4294967295:=by
 unfold J7 at h
 obtain⟨n0,a0,e0,h⟩:=FD h
 obtain⟨-,g0, -⟩:=IP e0
 have b0:=Du hB a
 obtain⟨n1,a1,e1,h⟩:=FD h
 obtain⟨-,g1, -⟩:=IP e1
 have b1:=Du hB a0
 obtain⟨n2,a2,e2,h⟩:=FD h
 obtain⟨-,g2, -⟩:=IP e2
 have b2:=Du hB a1
 cases h
 simp only
 omega
theorem regAt_rng{b:List Int}(hB:Ef b){a a2:Nat}{x:Ak}(h:KR b a = .ok x a2):0≤x.Ed∧x.Ed≤4294967295∧0≤x.Dz∧x.Dz≤4294967295∧0≤x.Frame∧x.Frame≤4294967295∧0≤x.CX∧x.CX≤4294967295:=by
 unfold KR at h
 obtain⟨n0,a0,e0,h⟩:=FD h
 obtain⟨-,g0, -⟩:=IP e0
 have b0:=Du hB a
 obtain⟨n1,a1,e1,h⟩:=FD h
 obtain⟨-,g1, -⟩:=IP e1
 have b1:=Du hB a0
 obtain⟨n2,a2,e2,h⟩:=FD h
 obtain⟨-,g2, -⟩:=IP e2
 have b2:=Du hB a1
 obtain⟨n3,a3,e3,h⟩:=FD h
 obtain⟨-,g3, -⟩:=IP e3
 have b3:=Du hB a2
 cases h
 simp only
 omega
theorem portAt_rng{b:List Int}(hB:Ef b){a a2:Nat}{x:Ap}(h:KL b a = .ok x a2):0≤x.Channel∧x.Channel≤4294967295:=by
 unfold KL at h
 obtain⟨n0,a0,e0,h⟩:=FD h
 obtain⟨-,g0, -⟩:=IP e0
 have b0:=Du hB a
 obtain⟨s0,c0,f0,h⟩:=FD h
 cases h
 simp only
 omega
theorem chanAt_rng{b:List Int}(hB:Ef b){a a2:Nat}{x:Ar}(h:H9 b a = .ok x a2):0≤x.Kind∧x.Kind≤4294967295∧0≤x.Words∧x.Words≤4294967295∧0≤x.Ei∧x.Ei≤4294967295:=by
 unfold H9 at h
 obtain⟨n0,a0,e0,h⟩:=FD h
 obtain⟨-,g0, -⟩:=IP e0
 have b0:=Du hB a
 obtain⟨n1,a1,e1,h⟩:=FD h
 obtain⟨-,g1, -⟩:=IP e1
 have b1:=Du hB a0
 obtain⟨n2,a2,e2,h⟩:=FD h
 obtain⟨-,g2, -⟩:=IP e2
 have b2:=Du hB a1
 cases h
 simp only
 omega
theorem DZ(w:World)(pr:Nat)(F:Nat→Prop)(b:List Int)(at0:Nat)(hr:BQ w pr F b at0 0):Calls Try.prog 59 #[.agg #[.pointer (some ⟨pr,0,none⟩)]] w fun e w'=>Rk w pr F b (at0+4≤b.length) (.int .i64 (Az b at0 4)) at0 (at0+4) e w':=by
 obtain⟨z,hz⟩:∃ z,z=w.heap.size:=⟨_,rfl⟩
 refine Bc (args:=[.agg #[pt pr]]) 6 ⟨w,z,[(old F w),(Bo pr F b at0 0)]⟩ Try.func59 rfl (by kernel_rfl) (by kernel_rfl) (hz ▸ FZ hr) ?_
 have hB:=hr.Nh;have hlen:=hr.len;have hat:=hr.le
 refine Bj [0] [(0,.agg #[pt pr])] ?_
 refine q_c 6 2 [] [[o0,o0],[(a1 2),o0]] [Qb z] [(3,.agg #[pt pr]),(4,.func (.func 75) #[] #[pt z])] ⟨w,z+1,[(old F w),(Bo pr F b at0 0),(bk z #[pt pr] 117)]⟩ rfl ⟨rfl,Ac⟩ ?_
 refine CJ [] [] 65 #[.agg #[pt pr],.func (.func 75) #[] #[pt z]] (some 5) Ac ?_
 intro w1 hw1
 refine(it_num w1 pr F b at0 (hw1.at (i:=1) rfl) z (Qc hw1 (i:=1) (j:=2) rfl rfl (by decide)).1 (Qc hw1 (i:=1) (j:=2) rfl rfl (by decide)).2).mono ?_
 rintro e w2 (⟨hqw2,rfl,hRw2,hkw2⟩ | ⟨hqw2,rfl,hkw2⟩)
 ·have hvbw2:=Du hB at0
  obtain⟨hnw2,hSw2⟩:=CB hw1 (i:=1) rfl hRw2 hkw2
  have hnw2':z+1≤w2.heap.size:=hnw2
  refine .inl ⟨_,_,rfl,hSw2, ?_⟩
  refine AC 3 0 [] [[o0]] [] [(2,i6 (Az b at0 4))] rfl Ac ?_
  refine AU [] [] (i6 (Az b at0 4)) Ac ?_
  intro w3 hw3
  exact .inl ⟨by omega,rfl,hw3.at (i:=1) rfl,A7 hw3⟩
 have hnw2:z+1≤w2.heap.size:=AB hw1 hkw2
 have hSw2:=BZ hw1 [0,2] (i:=1) rfl rfl rfl rfl hkw2
 refine .inr ⟨_,_,rfl,hSw2, ?_⟩
 refine Ba ?_
 intro w4 hw4
 exact .inr ⟨by omega,rfl,A7 hw4⟩
theorem TJ(w:World)(pr:Nat)(F:Nat→Prop)(b:List Int)(at0:Nat)(hr:BQ w pr F b at0 0):Calls Try.prog 81 #[.agg #[.pointer (some ⟨pr,0,none⟩)]] w fun e w'=>Rk w pr F b (at0+1≤b.length) (.int .i64 (gd b at0)) at0 (at0+1) e w':=by
 obtain⟨z,hz⟩:∃ z,z=w.heap.size:=⟨_,rfl⟩
 refine Bc (args:=[.agg #[pt pr]]) 6 ⟨w,z,[(old F w),(Bo pr F b at0 0)]⟩ Try.func81 rfl (by kernel_rfl) (by kernel_rfl) (hz ▸ FZ hr) ?_
 have hB:=hr.Nh;have hlen:=hr.len;have hat:=hr.le
 refine Bj [0] [(0,.agg #[pt pr])] ?_
 refine q_c 6 2 [] [[o0,o0],[(a1 2),o0]] [Qb z] [(3,.agg #[pt pr]),(4,.func (.func 94) #[] #[pt z])] ⟨w,z+1,[(old F w),(Bo pr F b at0 0),(bk z #[pt pr] 117)]⟩ rfl ⟨rfl,Ac⟩ ?_
 refine CJ [] [] 65 #[.agg #[pt pr],.func (.func 94) #[] #[pt z]] (some 5) Ac ?_
 intro w1 hw1
 refine(it_byte w1 pr F b at0 (hw1.at (i:=1) rfl) z (Qc hw1 (i:=1) (j:=2) rfl rfl (by decide)).1 (Qc hw1 (i:=1) (j:=2) rfl rfl (by decide)).2).mono ?_
 rintro e w2 (⟨hqw2,rfl,hRw2,hkw2⟩ | ⟨hqw2,rfl,hkw2⟩)
 ·have hvbw2:=GZ hB at0
  obtain⟨hnw2,hSw2⟩:=CB hw1 (i:=1) rfl hRw2 hkw2
  have hnw2':z+1≤w2.heap.size:=hnw2
  refine .inl ⟨_,_,rfl,hSw2, ?_⟩
  refine AC 3 0 [] [[o0]] [] [(2,i6 (gd b at0))] rfl Ac ?_
  refine AU [] [] (i6 (gd b at0)) Ac ?_
  intro w3 hw3
  exact .inl ⟨by omega,rfl,hw3.at (i:=1) rfl,A7 hw3⟩
 have hnw2:z+1≤w2.heap.size:=AB hw1 hkw2
 have hSw2:=BZ hw1 [0,2] (i:=1) rfl rfl rfl rfl hkw2
 refine .inr ⟨_,_,rfl,hSw2, ?_⟩
 refine Ba ?_
 intro w4 hw4
 exact .inr ⟨by omega,rfl,A7 hw4⟩
section
variable (z:Nat)(b:List Int)(at0 pr:Nat)
abbrev qfwa_0:=bk (z+1) #[i6 ((Az b at0 4) - 1),i6 (Az b (at0+4) 4),i6 (Az b (at0+4+4) 4)] 51
abbrev Xi:=bk z #[pt pr] 117
abbrev OW:=(2,pt (z+1))
end
theorem window_r(w:World)(pr:Nat)(F:Nat→Prop)(b:List Int)(at0:Nat)(hr:BQ w pr F b at0 0):Calls Try.prog 83 #[.agg #[.pointer (some ⟨pr,0,none⟩)]] w fun e w'=>Zv w pr F b (J7 b at0) (fun x=> .agg (Af.arr x)) e w':=by
 obtain⟨z,hz⟩:∃ z,z=w.heap.size:=⟨_,rfl⟩
 refine Bc (args:=[.agg #[pt pr]]) 11 ⟨w,z,[(old F w),(Bo pr F b at0 0)]⟩ Try.func83 rfl (by kernel_rfl) (by kernel_rfl) (hz ▸ FZ hr) ?_
 have hB:=hr.Nh;have hlen:=hr.len;have hat:=hr.le
 refine Bj [0] [(0,.agg #[pt pr])] ?_
 refine q_c 5 0 [] [[o0,o0]] [] [(1,pt z),(OW z)] ⟨w,z+2,[(old F w),(Bo pr F b at0 0),(Xi z pr),(bk (z+1) #[i6 0,i6 0,i6 0] 51)]⟩ rfl Ac ?_
 refine D5 8 [0,2,3] [(old F w),(Xi z pr),(bk (z+1) #[i6 0,i6 0,i6 0] 51)] rfl rfl ?_
 refine Bz [(0,(a1 1)),(3,(a1 1)),(5,(a1 1))] [2,3,6,8] [Qb z,Qb z,Qb z] [true,false,false,true,false,true,false,false,false] [(OW z),(3,.agg #[pt pr]),(6,.agg #[pt pr]),(8,.agg #[pt pr])] ⟨rfl,rfl,rfl,Ac⟩ ?_
 refine BJ 1 ?_
 refine Ea [] [] 59 #[.agg #[pt pr]] (some 4) (by as_aux_lemma=>kernel_rfl) rfl rfl Ac ?_
 intro w1 hw1
 have hlew1:=BQ.le (hw1.at (i:=1) (c:=(Bo pr F b at0 0)) rfl)
 refine(DZ w1 pr F b at0 (hw1.at (i:=1) rfl)).mono ?_
 rintro e w2 (⟨hqw2,rfl,hRw2,hkw2⟩ | ⟨hqw2,rfl,hkw2⟩)
 ·have hvbw2:=Du hB at0
  obtain⟨hnw2,hSw2⟩:=CB hw1 (i:=1) rfl hRw2 hkw2
  have hnw2':z+2≤w2.heap.size:=hnw2
  have hs3:=hSw2
  refine .inl ⟨_,_,rfl,hs3,.inr (fun c hc=>hs3.all c (by first | exact hc | exact BI (is:=[0,2,3]) rfl c hc)), ?_⟩
  refine Dx [2,6,8,4] [(OW z),(6,.agg #[pt pr]),(8,.agg #[pt pr]),(4,i6 (Az b at0 4))] ?_
  refine Bz [(2,(ov (i6 ((Az b at0 4) - 1))))] [2,6,8,5] [Wr (((Az b at0 4):Int) - 1) ((Az b at0 4) - 1)] [true,true,true,true,false,true,false,false,false] [(OW z),(6,.agg #[pt pr]),(8,.agg #[pt pr]),(5,i6 ((Az b at0 4) - 1))] ⟨Bq,Ac⟩ ?_
  refine BJ 4 ?_
  refine Ea [] [] 59 #[.agg #[pt pr]] (some 7) (by as_aux_lemma=>kernel_rfl) rfl rfl Ac ?_
  intro w4 hw4
  have hlew4:=BQ.le (hw4.at (i:=1) (c:=(Bo pr F b (at0+4) 0)) rfl)
  refine(DZ w4 pr F b (at0+4) (hw4.at (i:=1) rfl)).mono ?_
  rintro e w5 (⟨hqw5,rfl,hRw5,hkw5⟩ | ⟨hqw5,rfl,hkw5⟩)
  ·have hvbw5:=Du hB (at0+4)
   obtain⟨hnw5,hSw5⟩:=CB hw4 (i:=1) rfl hRw5 hkw5
   have hnw5':w2.heap.size≤w5.heap.size:=hnw5
   have hs6:=hSw5
   refine .inl ⟨_,_,rfl,hs6,.inr (fun c hc=>hs6.all c (by first | exact hc | exact BI (is:=[0,2,3]) rfl c hc)), ?_⟩
   refine Dx [2,8,5,7] [(OW z),(8,.agg #[pt pr]),(5,i6 ((Az b at0 4) - 1)),(7,i6 (Az b (at0+4) 4))] ?_
   refine BJ 6 ?_
   refine Ea [] [] 59 #[.agg #[pt pr]] (some 9) (by as_aux_lemma=>kernel_rfl) rfl rfl Ac ?_
   intro w7 hw7
   have hlew7:=BQ.le (hw7.at (i:=1) (c:=(Bo pr F b (at0+4+4) 0)) rfl)
   refine(DZ w7 pr F b (at0+4+4) (hw7.at (i:=1) rfl)).mono ?_
   rintro e w8 (⟨hqw8,rfl,hRw8,hkw8⟩ | ⟨hqw8,rfl,hkw8⟩)
   ·have hvbw8:=Du hB (at0+4+4)
    obtain⟨hnw8,hSw8⟩:=CB hw7 (i:=1) rfl hRw8 hkw8
    have hnw8':w5.heap.size≤w8.heap.size:=hnw8
    have hs9:=hSw8
    refine .inl ⟨_,_,rfl,hs9,.inr (fun c hc=>hs9.all c (by first | exact hc | exact BI (is:=[0,2,3]) rfl c hc)), ?_⟩
    refine Dx [2,5,7,9] [(OW z),(5,i6 ((Az b at0 4) - 1)),(7,i6 (Az b (at0+4) 4)),(9,i6 (Az b (at0+4+4) 4))] ?_
    refine Bz [(7,o0)] [2,10] [] (Dh 8 1) [(OW z),(10,.agg #[i6 ((Az b at0 4) - 1),i6 (Az b (at0+4) 4),i6 (Az b (at0+4+4) 4)])] Ac ?_
    refine BJ 8 ?_
    refine DT (an 3 3) [2] [Qb (z+1),Qb (z+1),Qb (z+1)] [(OW z)] ⟨w,w8.heap.size,[(old F w),(Bo pr F b (at0+4+4+4) 0),(Xi z pr),(qfwa_0 z b at0)]⟩ [] ⟨rfl,rfl,rfl,Ac⟩ (.inl rfl) ?_
    refine Ih 9 [0,1,2,3] [(old F w),(Bo pr F b (at0+4+4+4) 0),(Xi z pr),(qfwa_0 z b at0)] rfl rfl ?_
    refine C9 ?_
    refine Ce [2] [(OW z)] ?_
    refine Hu <| QC <| AU [.at 3,.at 3,.at 3] [Qb (z+1),Qb (z+1),Qb (z+1)] (.agg #[i6 ((Az b at0 4) - 1),i6 (Az b (at0+4) 4),i6 (Az b (at0+4+4) 4)]) ⟨rfl,rfl,rfl,Ac⟩ ?_
    intro w10 hw10
    exact .inl ⟨_,_,(by unfold J7;rw[AZ (by omega),PR.bind_ok,AZ (by omega),PR.bind_ok,AZ (by omega),PR.bind_ok]),rfl,hw10.at (i:=1) rfl,A7 hw10⟩
   have hnw8:w5.heap.size≤w8.heap.size:=AB hw7 hkw8
   have hSw8:=BZ hw7 [0,2,3] (i:=1) rfl rfl rfl rfl hkw8
   refine .inr ⟨_,_,rfl,hSw8, ?_⟩
   refine Ba ?_
   intro w11 hw11
   exact .inr ⟨_,(by unfold J7;rw[AZ (by omega),PR.bind_ok,AZ (by omega),PR.bind_ok,DU (by omega),PR.Dq]),rfl,A7 hw11⟩
  have hnw5:w2.heap.size≤w5.heap.size:=AB hw4 hkw5
  have hSw5:=BZ hw4 [0,2,3] (i:=1) rfl rfl rfl rfl hkw5
  refine .inr ⟨_,_,rfl,hSw5, ?_⟩
  refine Ba ?_
  intro w12 hw12
  exact .inr ⟨_,(by unfold J7;rw[AZ (by omega),PR.bind_ok,DU (by omega),PR.Dq]),rfl,A7 hw12⟩
 have hnw2:z+2≤w2.heap.size:=AB hw1 hkw2
 have hSw2:=BZ hw1 [0,2,3] (i:=1) rfl rfl rfl rfl hkw2
 refine .inr ⟨_,_,rfl,hSw2, ?_⟩
 refine Ba ?_
 intro w13 hw13
 exact .inr ⟨_,(by unfold J7;rw[DU (by omega),PR.Dq]),rfl,A7 hw13⟩
section
variable (z:Nat)(b:List Int)(at0 pr:Nat)
abbrev q6cs_0:=bk (z+1) #[i6 (Az b at0 4),i6 (Az b (at0+4) 4),i6 (Az b (at0+4+4) 4),i6 (Az b (at0+4+4+4) 4)] 53
abbrev Xu:=bk z #[pt pr] 117
abbrev Ph:=(2,pt (z+1))
end
theorem region_r(w:World)(pr:Nat)(F:Nat→Prop)(b:List Int)(at0:Nat)(hr:BQ w pr F b at0 0):Calls Try.prog 88 #[.agg #[.pointer (some ⟨pr,0,none⟩)]] w fun e w'=>Zv w pr F b (KR b at0) (fun x=> .agg (Ak.arr x)) e w':=by
 obtain⟨z,hz⟩:∃ z,z=w.heap.size:=⟨_,rfl⟩
 refine Bc (args:=[.agg #[pt pr]]) 12 ⟨w,z,[(old F w),(Bo pr F b at0 0)]⟩ Try.func88 rfl (by kernel_rfl) (by kernel_rfl) (hz ▸ FZ hr) ?_
 have hB:=hr.Nh;have hlen:=hr.len;have hat:=hr.le
 refine Bj [0] [(0,.agg #[pt pr])] ?_
 refine q_c 5 0 [] [[o0,o0]] [] [(1,pt z),(Ph z)] ⟨w,z+2,[(old F w),(Bo pr F b at0 0),(Xu z pr),(bk (z+1) #[i6 0,i6 0,i6 0,i6 0] 53)]⟩ rfl Ac ?_
 refine D5 9 [0,2,3] [(old F w),(Xu z pr),(bk (z+1) #[i6 0,i6 0,i6 0,i6 0] 53)] rfl rfl ?_
 refine Bz [(0,(a1 1)),(2,(a1 1)),(4,(a1 1)),(6,(a1 1))] [2,3,5,7,9] [Qb z,Qb z,Qb z,Qb z] [true,false,true,false,true,false,true,false,false,false] [(Ph z),(3,.agg #[pt pr]),(5,.agg #[pt pr]),(7,.agg #[pt pr]),(9,.agg #[pt pr])] ⟨rfl,rfl,rfl,rfl,Ac⟩ ?_
 refine BJ 1 ?_
 refine Ea [] [] 59 #[.agg #[pt pr]] (some 4) (by as_aux_lemma=>kernel_rfl) rfl rfl Ac ?_
 intro w1 hw1
 have hlew1:=BQ.le (hw1.at (i:=1) (c:=(Bo pr F b at0 0)) rfl)
 refine(DZ w1 pr F b at0 (hw1.at (i:=1) rfl)).mono ?_
 rintro e w2 (⟨hqw2,rfl,hRw2,hkw2⟩ | ⟨hqw2,rfl,hkw2⟩)
 ·have hvbw2:=Du hB at0
  obtain⟨hnw2,hSw2⟩:=CB hw1 (i:=1) rfl hRw2 hkw2
  have hnw2':z+2≤w2.heap.size:=hnw2
  have hs3:=hSw2
  refine .inl ⟨_,_,rfl,hs3,.inr (fun c hc=>hs3.all c (by first | exact hc | exact BI (is:=[0,2,3]) rfl c hc)), ?_⟩
  refine Dx [2,5,7,9,4] [(Ph z),(5,.agg #[pt pr]),(7,.agg #[pt pr]),(9,.agg #[pt pr]),(4,i6 (Az b at0 4))] ?_
  refine BJ 3 ?_
  refine Ea [] [] 59 #[.agg #[pt pr]] (some 6) (by as_aux_lemma=>kernel_rfl) rfl rfl Ac ?_
  intro w4 hw4
  have hlew4:=BQ.le (hw4.at (i:=1) (c:=(Bo pr F b (at0+4) 0)) rfl)
  refine(DZ w4 pr F b (at0+4) (hw4.at (i:=1) rfl)).mono ?_
  rintro e w5 (⟨hqw5,rfl,hRw5,hkw5⟩ | ⟨hqw5,rfl,hkw5⟩)
  ·have hvbw5:=Du hB (at0+4)
   obtain⟨hnw5,hSw5⟩:=CB hw4 (i:=1) rfl hRw5 hkw5
   have hnw5':w2.heap.size≤w5.heap.size:=hnw5
   have hs6:=hSw5
   refine .inl ⟨_,_,rfl,hs6,.inr (fun c hc=>hs6.all c (by first | exact hc | exact BI (is:=[0,2,3]) rfl c hc)), ?_⟩
   refine Dx [2,7,9,4,6] [(Ph z),(7,.agg #[pt pr]),(9,.agg #[pt pr]),(4,i6 (Az b at0 4)),(6,i6 (Az b (at0+4) 4))] ?_
   refine BJ 5 ?_
   refine Ea [] [] 59 #[.agg #[pt pr]] (some 8) (by as_aux_lemma=>kernel_rfl) rfl rfl Ac ?_
   intro w7 hw7
   have hlew7:=BQ.le (hw7.at (i:=1) (c:=(Bo pr F b (at0+4+4) 0)) rfl)
   refine(DZ w7 pr F b (at0+4+4) (hw7.at (i:=1) rfl)).mono ?_
   rintro e w8 (⟨hqw8,rfl,hRw8,hkw8⟩ | ⟨hqw8,rfl,hkw8⟩)
   ·have hvbw8:=Du hB (at0+4+4)
    obtain⟨hnw8,hSw8⟩:=CB hw7 (i:=1) rfl hRw8 hkw8
    have hnw8':w5.heap.size≤w8.heap.size:=hnw8
    have hs9:=hSw8
    refine .inl ⟨_,_,rfl,hs9,.inr (fun c hc=>hs9.all c (by first | exact hc | exact BI (is:=[0,2,3]) rfl c hc)), ?_⟩
    refine Dx [2,9,4,6,8] [(Ph z),(9,.agg #[pt pr]),(4,i6 (Az b at0 4)),(6,i6 (Az b (at0+4) 4)),(8,i6 (Az b (at0+4+4) 4))] ?_
    refine BJ 7 ?_
    refine Ea [] [] 59 #[.agg #[pt pr]] (some 10) (by as_aux_lemma=>kernel_rfl) rfl rfl Ac ?_
    intro w10 hw10
    have hlew10:=BQ.le (hw10.at (i:=1) (c:=(Bo pr F b (at0+4+4+4) 0)) rfl)
    refine(DZ w10 pr F b (at0+4+4+4) (hw10.at (i:=1) rfl)).mono ?_
    rintro e w11 (⟨hqw11,rfl,hRw11,hkw11⟩ | ⟨hqw11,rfl,hkw11⟩)
    ·have hvbw11:=Du hB (at0+4+4+4)
     obtain⟨hnw11,hSw11⟩:=CB hw10 (i:=1) rfl hRw11 hkw11
     have hnw11':w8.heap.size≤w11.heap.size:=hnw11
     have hs12:=hSw11
     refine .inl ⟨_,_,rfl,hs12,.inr (fun c hc=>hs12.all c (by first | exact hc | exact BI (is:=[0,2,3]) rfl c hc)), ?_⟩
     refine Dx [2,4,6,8,10] [(Ph z),(4,i6 (Az b at0 4)),(6,i6 (Az b (at0+4) 4)),(8,i6 (Az b (at0+4+4) 4)),(10,i6 (Az b (at0+4+4+4) 4))] ?_
     refine Bz [(8,o0)] [2,11] [] (Dh 9 1) [(Ph z),(11,.agg #[i6 (Az b at0 4),i6 (Az b (at0+4) 4),i6 (Az b (at0+4+4) 4),i6 (Az b (at0+4+4+4) 4)])] Ac ?_
     refine BJ 9 ?_
     refine DT (an 4 3) [2] [Qb (z+1),Qb (z+1),Qb (z+1),Qb (z+1)] [(Ph z)] ⟨w,w11.heap.size,[(old F w),(Bo pr F b (at0+4+4+4+4) 0),(Xu z pr),(q6cs_0 z b at0)]⟩ [] ⟨rfl,rfl,rfl,rfl,Ac⟩ (.inl rfl) ?_
     refine Ih 10 [0,1,2,3] [(old F w),(Bo pr F b (at0+4+4+4+4) 0),(Xu z pr),(q6cs_0 z b at0)] rfl rfl ?_
     refine C9 ?_
     refine Ce [2] [(Ph z)] ?_
     refine Hu <| QC <| AU [.at 3,.at 3,.at 3,.at 3] [Qb (z+1),Qb (z+1),Qb (z+1),Qb (z+1)] (.agg #[i6 (Az b at0 4),i6 (Az b (at0+4) 4),i6 (Az b (at0+4+4) 4),i6 (Az b (at0+4+4+4) 4)]) ⟨rfl,rfl,rfl,rfl,Ac⟩ ?_
     intro w13 hw13
     exact .inl ⟨_,_,(by unfold KR;rw[AZ (by omega),PR.bind_ok,AZ (by omega),PR.bind_ok,AZ (by omega),PR.bind_ok,AZ (by omega),PR.bind_ok]),rfl,hw13.at (i:=1) rfl,A7 hw13⟩
    have hnw11:w8.heap.size≤w11.heap.size:=AB hw10 hkw11
    have hSw11:=BZ hw10 [0,2,3] (i:=1) rfl rfl rfl rfl hkw11
    refine .inr ⟨_,_,rfl,hSw11, ?_⟩
    refine Ba ?_
    intro w14 hw14
    exact .inr ⟨_,(by unfold KR;rw[AZ (by omega),PR.bind_ok,AZ (by omega),PR.bind_ok,AZ (by omega),PR.bind_ok,DU (by omega),PR.Dq]),rfl,A7 hw14⟩
   have hnw8:w5.heap.size≤w8.heap.size:=AB hw7 hkw8
   have hSw8:=BZ hw7 [0,2,3] (i:=1) rfl rfl rfl rfl hkw8
   refine .inr ⟨_,_,rfl,hSw8, ?_⟩
   refine Ba ?_
   intro w15 hw15
   exact .inr ⟨_,(by unfold KR;rw[AZ (by omega),PR.bind_ok,AZ (by omega),PR.bind_ok,DU (by omega),PR.Dq]),rfl,A7 hw15⟩
  have hnw5:w2.heap.size≤w5.heap.size:=AB hw4 hkw5
  have hSw5:=BZ hw4 [0,2,3] (i:=1) rfl rfl rfl rfl hkw5
  refine .inr ⟨_,_,rfl,hSw5, ?_⟩
  refine Ba ?_
  intro w16 hw16
  exact .inr ⟨_,(by unfold KR;rw[AZ (by omega),PR.bind_ok,DU (by omega),PR.Dq]),rfl,A7 hw16⟩
 have hnw2:z+2≤w2.heap.size:=AB hw1 hkw2
 have hSw2:=BZ hw1 [0,2,3] (i:=1) rfl rfl rfl rfl hkw2
 refine .inr ⟨_,_,rfl,hSw2, ?_⟩
 refine Ba ?_
 intro w17 hw17
 exact .inr ⟨_,(by unfold KR;rw[DU (by omega),PR.Dq]),rfl,A7 hw17⟩
section
variable (z pr:Nat)
abbrev X6:=bk z #[pt pr] 117
abbrev Ru:=(2,pt (z+1))
end
theorem port_r(w:World)(pr:Nat)(F:Nat→Prop)(b:List Int)(at0:Nat)(hr:BQ w pr F b at0 0):Calls Try.prog 90 #[.agg #[.pointer (some ⟨pr,0,none⟩)]] w fun e w'=>Zv w pr F b (KL b at0) (fun x=> .agg (Ap.arr x)) e w':=by
 obtain⟨z,hz⟩:∃ z,z=w.heap.size:=⟨_,rfl⟩
 refine Bc (args:=[.agg #[pt pr]]) 9 ⟨w,z,[(old F w),(Bo pr F b at0 0)]⟩ Try.func90 rfl (by kernel_rfl) (by kernel_rfl) (hz ▸ FZ hr) ?_
 have hB:=hr.Nh;have hlen:=hr.len;have hat:=hr.le
 refine Bj [0] [(0,.agg #[pt pr])] ?_
 refine q_c 5 0 [] [[o0,o0]] [] [(1,pt z),(Ru z)] ⟨w,z+2,[(old F w),(Bo pr F b at0 0),(X6 z pr),(bk (z+1) #[i6 0,.bool false] 55)]⟩ rfl Ac ?_
 refine D5 6 [0,2,3] [(old F w),(X6 z pr),(bk (z+1) #[i6 0,.bool false] 55)] rfl rfl ?_
 refine Bz [(0,(a1 1)),(2,(a1 1)),(3,o0)] [2,3,5,6] [Qb z,Qb z] [true,false,true,true,false,false,false] [(Ru z),(3,.agg #[pt pr]),(5,.agg #[pt pr]),(6,.func (.func 97) #[] #[pt z])] ⟨rfl,rfl,Ac⟩ ?_
 refine BJ 1 ?_
 refine Ea [] [] 59 #[.agg #[pt pr]] (some 4) (by as_aux_lemma=>kernel_rfl) rfl rfl Ac ?_
 intro w1 hw1
 have hlew1:=BQ.le (hw1.at (i:=1) (c:=(Bo pr F b at0 0)) rfl)
 refine(DZ w1 pr F b at0 (hw1.at (i:=1) rfl)).mono ?_
 rintro e w2 (⟨hqw2,rfl,hRw2,hkw2⟩ | ⟨hqw2,rfl,hkw2⟩)
 ·have hvbw2:=Du hB at0
  obtain⟨hnw2,hSw2⟩:=CB hw1 (i:=1) rfl hRw2 hkw2
  have hnw2':z+2≤w2.heap.size:=hnw2
  have hs3:=hSw2
  refine .inl ⟨_,_,rfl,hs3,.inr (fun c hc=>hs3.all c (by first | exact hc | exact BI (is:=[0,2,3]) rfl c hc)), ?_⟩
  refine Dx [2,5,6,4] [(Ru z),(5,.agg #[pt pr]),(6,.func (.func 97) #[] #[pt z]),(4,i6 (Az b at0 4))] ?_
  refine BJ 4 ?_
  refine Ea [] [] 96 #[.agg #[pt pr],.func (.func 97) #[] #[pt z]] (some 7) (by as_aux_lemma=>kernel_rfl) rfl rfl Ac ?_
  intro w4 hw4
  refine(it_src w4 pr F b (at0+4) (hw4.at (i:=1) rfl) z (Qc hw4 (i:=1) (j:=2) rfl rfl (by decide)).1 (Qc hw4 (i:=1) (j:=2) rfl rfl (by decide)).2).mono ?_
  rintro e w5 (⟨hqw5,rfl,hRw5,hkw5⟩ | ⟨hqw5,rfl,hkw5⟩)
  ·obtain⟨hnw5,hSw5⟩:=CB hw4 (i:=1) rfl hRw5 hkw5
   have hnw5':w2.heap.size≤w5.heap.size:=hnw5
   have hs6:=hSw5
   refine .inl ⟨_,_,rfl,hs6,.inr (fun c hc=>hs6.all c (by first | exact hc | exact BI (is:=[0,2,3]) rfl c hc)), ?_⟩
   refine Dx [2,4,7] [(Ru z),(4,i6 (Az b at0 4)),(7,.bool (decide (gd b (at0+4)=1)))] ?_
   refine Bz [(5,o0)] [2,8] [] (Dh 6 1) [(Ru z),(8,.agg #[i6 (Az b at0 4),.bool (decide (gd b (at0+4)=1))])] Ac ?_
   refine BJ 6 ?_
   refine DT (an 2 3) [2] [Qb (z+1),Qb (z+1)] [(Ru z)] ⟨w,w5.heap.size,[(old F w),(Bo pr F b (at0+4+1) 0),(X6 z pr),(bk (z+1) #[i6 (Az b at0 4),.bool (decide (gd b (at0+4)=1))] 55)]⟩ [] ⟨rfl,rfl,Ac⟩ (.inl rfl) ?_
   refine Ih 7 [0,1,2,3] [(old F w),(Bo pr F b (at0+4+1) 0),(X6 z pr),(bk (z+1) #[i6 (Az b at0 4),.bool (decide (gd b (at0+4)=1))] 55)] rfl rfl ?_
   refine C9 ?_
   refine Ce [2] [(Ru z)] ?_
   refine Hu <| QC <| AU [.at 3,.at 3] [Qb (z+1),Qb (z+1)] (.agg #[i6 (Az b at0 4),.bool (decide (gd b (at0+4)=1))]) ⟨rfl,rfl,Ac⟩ ?_
   intro w7 hw7
   exact .inl ⟨_,_,(by unfold KL;rw[AZ (by omega),PR.bind_ok,RZ (by omega),PR.bind_ok]),rfl,hw7.at (i:=1) rfl,A7 hw7⟩
  have hnw5:w2.heap.size≤w5.heap.size:=AB hw4 hkw5
  have hSw5:=BZ hw4 [0,2,3] (i:=1) rfl rfl rfl rfl hkw5
  refine .inr ⟨_,_,rfl,hSw5, ?_⟩
  refine Ba ?_
  intro w8 hw8
  exact .inr ⟨_,(by unfold KL;rw[AZ (by omega),PR.bind_ok,Xd (by omega),PR.Dq]),rfl,A7 hw8⟩
 have hnw2:z+2≤w2.heap.size:=AB hw1 hkw2
 have hSw2:=BZ hw1 [0,2,3] (i:=1) rfl rfl rfl rfl hkw2
 refine .inr ⟨_,_,rfl,hSw2, ?_⟩
 refine Ba ?_
 intro w9 hw9
 exact .inr ⟨_,(by unfold KL;rw[DU (by omega),PR.Dq]),rfl,A7 hw9⟩
section
variable (z:Nat)(b:List Int)(at0 pr:Nat)
abbrev queg_0:=bk (z+1) #[i6 (Az b at0 4),i6 (Az b (at0+4) 4),i6 (Az b (at0+4+4) 4)] 57
abbrev Yc:=bk z #[pt pr] 117
abbrev Qy:=(2,pt (z+1))
end
theorem channel_r(w:World)(pr:Nat)(F:Nat→Prop)(b:List Int)(at0:Nat)(hr:BQ w pr F b at0 0):Calls Try.prog 73 #[.agg #[.pointer (some ⟨pr,0,none⟩)]] w fun e w'=>Zv w pr F b (H9 b at0) (fun x=> .agg (Ar.arr x)) e w':=by
 obtain⟨z,hz⟩:∃ z,z=w.heap.size:=⟨_,rfl⟩
 refine Bc (args:=[.agg #[pt pr]]) 10 ⟨w,z,[(old F w),(Bo pr F b at0 0)]⟩ Try.func73 rfl (by kernel_rfl) (by kernel_rfl) (hz ▸ FZ hr) ?_
 have hB:=hr.Nh;have hlen:=hr.len;have hat:=hr.le
 refine Bj [0] [(0,.agg #[pt pr])] ?_
 refine q_c 5 0 [] [[o0,o0]] [] [(1,pt z),(Qy z)] ⟨w,z+2,[(old F w),(Bo pr F b at0 0),(Yc z pr),(bk (z+1) #[i6 0,i6 0,i6 0] 57)]⟩ rfl Ac ?_
 refine D5 7 [0,2,3] [(old F w),(Yc z pr),(bk (z+1) #[i6 0,i6 0,i6 0] 57)] rfl rfl ?_
 refine Bz [(0,(a1 1)),(2,(a1 1)),(4,(a1 1))] [2,3,5,7] [Qb z,Qb z,Qb z] [true,false,true,false,true,false,false,false] [(Qy z),(3,.agg #[pt pr]),(5,.agg #[pt pr]),(7,.agg #[pt pr])] ⟨rfl,rfl,rfl,Ac⟩ ?_
 refine BJ 1 ?_
 refine Ea [] [] 59 #[.agg #[pt pr]] (some 4) (by as_aux_lemma=>kernel_rfl) rfl rfl Ac ?_
 intro w1 hw1
 have hlew1:=BQ.le (hw1.at (i:=1) (c:=(Bo pr F b at0 0)) rfl)
 refine(DZ w1 pr F b at0 (hw1.at (i:=1) rfl)).mono ?_
 rintro e w2 (⟨hqw2,rfl,hRw2,hkw2⟩ | ⟨hqw2,rfl,hkw2⟩)
 ·have hvbw2:=Du hB at0
  obtain⟨hnw2,hSw2⟩:=CB hw1 (i:=1) rfl hRw2 hkw2
  have hnw2':z+2≤w2.heap.size:=hnw2
  have hs3:=hSw2
  refine .inl ⟨_,_,rfl,hs3,.inr (fun c hc=>hs3.all c (by first | exact hc | exact BI (is:=[0,2,3]) rfl c hc)), ?_⟩
  refine Dx [2,5,7,4] [(Qy z),(5,.agg #[pt pr]),(7,.agg #[pt pr]),(4,i6 (Az b at0 4))] ?_
  refine BJ 3 ?_
  refine Ea [] [] 59 #[.agg #[pt pr]] (some 6) (by as_aux_lemma=>kernel_rfl) rfl rfl Ac ?_
  intro w4 hw4
  have hlew4:=BQ.le (hw4.at (i:=1) (c:=(Bo pr F b (at0+4) 0)) rfl)
  refine(DZ w4 pr F b (at0+4) (hw4.at (i:=1) rfl)).mono ?_
  rintro e w5 (⟨hqw5,rfl,hRw5,hkw5⟩ | ⟨hqw5,rfl,hkw5⟩)
  ·have hvbw5:=Du hB (at0+4)
   obtain⟨hnw5,hSw5⟩:=CB hw4 (i:=1) rfl hRw5 hkw5
   have hnw5':w2.heap.size≤w5.heap.size:=hnw5
   have hs6:=hSw5
   refine .inl ⟨_,_,rfl,hs6,.inr (fun c hc=>hs6.all c (by first | exact hc | exact BI (is:=[0,2,3]) rfl c hc)), ?_⟩
   refine Dx [2,7,4,6] [(Qy z),(7,.agg #[pt pr]),(4,i6 (Az b at0 4)),(6,i6 (Az b (at0+4) 4))] ?_
   refine BJ 5 ?_
   refine Ea [] [] 59 #[.agg #[pt pr]] (some 8) (by as_aux_lemma=>kernel_rfl) rfl rfl Ac ?_
   intro w7 hw7
   have hlew7:=BQ.le (hw7.at (i:=1) (c:=(Bo pr F b (at0+4+4) 0)) rfl)
   refine(DZ w7 pr F b (at0+4+4) (hw7.at (i:=1) rfl)).mono ?_
   rintro e w8 (⟨hqw8,rfl,hRw8,hkw8⟩ | ⟨hqw8,rfl,hkw8⟩)
   ·have hvbw8:=Du hB (at0+4+4)
    obtain⟨hnw8,hSw8⟩:=CB hw7 (i:=1) rfl hRw8 hkw8
    have hnw8':w5.heap.size≤w8.heap.size:=hnw8
    have hs9:=hSw8
    refine .inl ⟨_,_,rfl,hs9,.inr (fun c hc=>hs9.all c (by first | exact hc | exact BI (is:=[0,2,3]) rfl c hc)), ?_⟩
    refine Dx [2,4,6,8] [(Qy z),(4,i6 (Az b at0 4)),(6,i6 (Az b (at0+4) 4)),(8,i6 (Az b (at0+4+4) 4))] ?_
    refine Bz [(6,o0)] [2,9] [] (Dh 7 1) [(Qy z),(9,.agg #[i6 (Az b at0 4),i6 (Az b (at0+4) 4),i6 (Az b (at0+4+4) 4)])] Ac ?_
    refine BJ 7 ?_
    refine DT (an 3 3) [2] [Qb (z+1),Qb (z+1),Qb (z+1)] [(Qy z)] ⟨w,w8.heap.size,[(old F w),(Bo pr F b (at0+4+4+4) 0),(Yc z pr),(queg_0 z b at0)]⟩ [] ⟨rfl,rfl,rfl,Ac⟩ (.inl rfl) ?_
    refine Ih 8 [0,1,2,3] [(old F w),(Bo pr F b (at0+4+4+4) 0),(Yc z pr),(queg_0 z b at0)] rfl rfl ?_
    refine C9 ?_
    refine Ce [2] [(Qy z)] ?_
    refine Hu <| QC <| AU [.at 3,.at 3,.at 3] [Qb (z+1),Qb (z+1),Qb (z+1)] (.agg #[i6 (Az b at0 4),i6 (Az b (at0+4) 4),i6 (Az b (at0+4+4) 4)]) ⟨rfl,rfl,rfl,Ac⟩ ?_
    intro w10 hw10
    exact .inl ⟨_,_,(by unfold H9;rw[AZ (by omega),PR.bind_ok,AZ (by omega),PR.bind_ok,AZ (by omega),PR.bind_ok]),rfl,hw10.at (i:=1) rfl,A7 hw10⟩
   have hnw8:w5.heap.size≤w8.heap.size:=AB hw7 hkw8
   have hSw8:=BZ hw7 [0,2,3] (i:=1) rfl rfl rfl rfl hkw8
   refine .inr ⟨_,_,rfl,hSw8, ?_⟩
   refine Ba ?_
   intro w11 hw11
   exact .inr ⟨_,(by unfold H9;rw[AZ (by omega),PR.bind_ok,AZ (by omega),PR.bind_ok,DU (by omega),PR.Dq]),rfl,A7 hw11⟩
  have hnw5:w2.heap.size≤w5.heap.size:=AB hw4 hkw5
  have hSw5:=BZ hw4 [0,2,3] (i:=1) rfl rfl rfl rfl hkw5
  refine .inr ⟨_,_,rfl,hSw5, ?_⟩
  refine Ba ?_
  intro w12 hw12
  exact .inr ⟨_,(by unfold H9;rw[AZ (by omega),PR.bind_ok,DU (by omega),PR.Dq]),rfl,A7 hw12⟩
 have hnw2:z+2≤w2.heap.size:=AB hw1 hkw2
 have hSw2:=BZ hw1 [0,2,3] (i:=1) rfl rfl rfl rfl hkw2
 refine .inr ⟨_,_,rfl,hSw2, ?_⟩
 refine Ba ?_
 intro w13 hw13
 exact .inr ⟨_,(by unfold H9;rw[DU (by omega),PR.Dq]),rfl,A7 hw13⟩
def many{α:Type}(one:Nat→PR α):Nat→Nat→PR (List α)
 | 0,a=> .ok [] a
 | n+1,a=>(many one n a).bind fun xs a=>(one a).bind fun x a=> .ok (xs++[x]) a
def EZ{α:Type}(b:List Int)(one:Nat→PR α)(a:Nat):PR (List α):=(byteAt b a).bind fun n a=>many one n.toNat a
theorem Na{α:Type}{one:Nat→PR α}{n a a1 a2:Nat}{xs:List α}{x:α}(h:many one n a = .ok xs a1)(hx:one a1 = .ok x a2):many one (n+1) a = .ok (xs++[x]) a2:=by
 rw[many,h,PR.bind_ok,hx,PR.bind_ok]
theorem UY{α:Type}{one:Nat→PR α}{n a a1 p:Nat}{xs:List α}(h:many one n a = .ok xs a1)(hx:one a1 = .no p):∀ k,n<k→many one k a = .no p
 | k+1,hk=>by
  by_cases e:n=k
  ·subst e;rw[many,h,PR.bind_ok,hx,PR.Dq]
  rw[many,UY h hx k (by omega),PR.Dq]
theorem MP{α:Type}{one:Nat→PR α}:∀ {n a a1:Nat} {xs:List α},many one n a = .ok xs a1→xs.length=n
 | 0,a,a1,xs,h=>by cases h;rfl
 | n+1,a,a1,xs,h=>by
  obtain⟨ys,a2,h1,h⟩:=FD h
  obtain⟨x,a3,h2,h⟩:=FD h
  cases h
  rw[List.length_append,MP h1];rfl
theorem QZ{α:Type}{b:List Int}{one:Nat→PR α}{a a2 n k:Nat}{xs:List α}(h1:a+1≤b.length)(h2:gd b a=(n:Int))(hk:k=n)(h:many one k (a+1) = .ok xs a2):EZ b one a = .ok xs a2:=by
 subst hk
 unfold EZ;rw[SI h1,PR.bind_ok,h2];exact h
theorem PP{α:Type}{b:List Int}{one:Nat→PR α}{a:Nat}(h1:¬ a+1≤b.length):EZ b one a = .no a:=by
 unfold EZ;rw[YX h1,PR.Dq]
theorem QS{α:Type}{b:List Int}{one:Nat→PR α}{a a1 n i p:Nat}{xs:List α}(h1:a+1≤b.length)(h2:gd b a=(n:Int))(hi:i<n)(h:many one i (a+1) = .ok xs a1)(hx:one a1 = .no p):EZ b one a = .no p:=by
 unfold EZ;rw[SI h1,PR.bind_ok,h2];exact UY h hx _ hi
theorem PI{α:Type}{b:List Int}{one:Nat→PR α}{a a2:Nat}{xs:List α}(hB:Ef b)(h:EZ b one a = .ok xs a2):xs.length≤255∧gd b a=(xs.length:Int)∧a+1≤b.length∧many one xs.length (a+1) = .ok xs a2:=by
 obtain⟨n,a1,h1,h⟩:=FD h
 obtain⟨h2,h3,h4⟩:=Zc h1
 have h5:=MP h
 have h6:=GZ hB a
 subst h4
 rw[←h5]at h
 exact⟨by omega,by omega,h2,h⟩
def XQ{α:Type}(w:World)(pr:Nat)(F:Nat→Prop)(b:List Int)(r:PR (List α))(E:TypeId)(sz:Nat)(cells:α→List Value)(e:Ending)(w':World):Prop :=
 (∃ xs a ad cap,r = .ok xs a∧e = .returned (.slice ad xs.length cap)∧BQ w' pr F b a 0∧AV F w w'∧(Au w.heap.size E sz cells (.slice ad xs.length cap) xs).holds w')∨(∃ p,r = .no p∧e = .panicked (Ug 110 p)∧AV F w w')
theorem sat_one{w:World}{c:Ch}(h:c.holds w)(hst:c.stable)(hb:∀ b,c.F b→b<w.heap.size):Sat ⟨w,w.heap.size,[c]⟩ w :=
 ⟨rfl,rfl,rfl,rfl,fun d hd=>by rw[List.mem_singleton.1 hd];exact h,fun d hd=>by rw[List.mem_singleton.1 hd];exact hb,fun d hd=>by rw[List.mem_singleton.1 hd];exact hst,by simp⟩
theorem UR{α:Type}{A:AW}{w w':World}{i pr:Nat}{F:Nat→Prop}{b:List Int}{at0 at':Nat}{fl0 fl:Int}{e:TypeId}{sz:Nat}{cells:α→List Value}{v:Value}{xs:List α}(h:Sat A w)(hi:A.σ[i]? = some (Bo pr F b at0 fl0))(hR:BQ w' pr F b at' fl)(hk:AV F w w')(ho:(Au w.heap.size e sz cells v xs).holds w')(z:Nat)(hz:z≤A.n):A.n≤w'.heap.size∧Sat { A with n:=w'.heap.size,σ:=A.σ.set i (Bo pr F b at' fl)++[Au z e sz cells v xs] } w' :=
 ⟨AB h hk,h.UF hi rfl rfl hk hR (Qk _ _ _ _ _) (fun _ h=>h) (sat_one (Wu ho (by rw[h.size];exact hz)) (D9 _ _ _ _ _ _) (fun b hb=>((show w'.ownsRow w.heap.size e sz v xs.length (xs.flatMap cells)from ho).lt b hb).2)) (fun d hd b hb=>by rw[List.mem_singleton.1 hd]at hb;exact((show w'.ownsRow w.heap.size e sz v xs.length (xs.flatMap cells)from ho).lt b hb).1)⟩
section
variable (z pr:Nat)
abbrev V8:=bk z #[pt pr] 117
end
theorem takeW(w:World)(pr:Nat)(F:Nat→Prop)(b:List Int)(at0:Nat)(hr:BQ w pr F b at0 0):Calls Try.prog 82 #[.agg #[.pointer (some ⟨pr,0,none⟩)],.func (.func 83) #[] #[]] w fun e w'=>XQ w pr F b (EZ b (J7 b) at0) 51 3 Af.cells e w':=by
 obtain⟨z,hz⟩:∃ z,z=w.heap.size:=⟨_,rfl⟩
 refine Bc (args:=[.agg #[pt pr],.func (.func 83) #[] #[]]) 20 ⟨w,z,[(old F w),(Bo pr F b at0 0)]⟩ Try.func82 rfl (by kernel_rfl) (by kernel_rfl) (hz ▸ FZ hr) ?_
 have hB:=hr.Nh;have hlen:=hr.len;have hat:=hr.le
 refine Bj [0,1] [(0,.agg #[pt pr]),(1,.func (.func 83) #[] #[])] ?_
 refine q_c 6 1 [] [[o0,o0],[(a1 2)]] [Qb z] [(1,.func (.func 83) #[] #[]),(2,pt z),(7,.agg #[pt pr])] ⟨w,z+1,[(old F w),(Bo pr F b at0 0),(V8 z pr)]⟩ rfl ⟨rfl,Ac⟩ ?_
 refine CJ [] [] 81 #[.agg #[pt pr]] (some 8) Ac ?_
 intro w1 hw1
 have hlew1:=BQ.le (hw1.at (i:=1) (c:=(Bo pr F b at0 0)) rfl)
 refine(TJ w1 pr F b at0 (hw1.at (i:=1) rfl)).mono ?_
 rintro e w2 (⟨hqw2,rfl,hRw2,hkw2⟩ | ⟨hqw2,rfl,hkw2⟩)
 ·have hvbw2:=GZ hB at0
  obtain⟨n3,hnn3⟩:∃ n:Nat,(gd b at0)=(n:Int):=⟨_,(Int.toNat_of_nonneg hvbw2.1).symm⟩;rw[hnn3]
  obtain⟨hnw2,hSw2⟩:=CB hw1 (i:=1) rfl hRw2 hkw2
  have hnw2':z+1≤w2.heap.size:=hnw2
  refine .inl ⟨_,_,rfl,hSw2, ?_⟩
  refine AC 12 0 [] [[o0],[o0],[o0,o0]] [] [(1,.func (.func 83) #[] #[]),(2,pt z),(6,.slice none 0 0),(9,Ae n3),(10,i6 0)] rfl Ac ?_
  refine FW z 51 3 Af.cells ?_
  refine Bl (fun m a w'=>∃ (n5:Nat) (i:Nat) (xs:List Af) (ati:Nat) (aL:Option Addr) (cL:Nat),m=n3 - i∧w2.heap.size≤n5∧(i≤n3)∧(many (J7 b) i (at0+1) = .ok xs ati)∧St 20 [(1,.func (.func 83) #[] #[]),(2,pt z),(6,.slice aL xs.length cL),(9,Ae n3),(10,Ae i)] [] ⟨w,n5,[(old F w),(Bo pr F b ati 0),(V8 z pr),(Au z 51 3 Af.cells (.slice aL xs.length cL) xs)]⟩ a w') (n3 - 0) ?_ ?_
  ·intro a w' hs;exact⟨w2.heap.size,0,([]),(at0+1),none,0,rfl,Nat.le_refl _,Nat.zero_le _,rfl,hs⟩
  rintro m a w' ⟨n5,i,xs,ati,aL,cL,rfl,hn4,hki,hm,hs⟩
  refine(?_:G Try.prog 20 [(1,.func (.func 83) #[] #[]),(2,pt z),(6,.slice aL xs.length cL),(9,Ae n3),(10,Ae i)] [] ⟨w,n5,[(old F w),(Bo pr F b ati 0),(V8 z pr),(Au z 51 3 Af.cells (.slice aL xs.length cL) xs)]⟩ _ _ _) a w' hs
  clear hs a w'
  have hxl:=MP hm
  refine Bi ?_
  by_cases h6:(i:Int)<(n3:Int)
  ·refine Aw 10 3 [1] [[oT],[o0,o0,(a1 2)]] [BT ((i:Int)<(n3:Int)),Qb z] [(1,.func (.func 83) #[] #[]),(2,pt z),(9,Ae n3),(10,Ae i),(12,.slice aL xs.length cL),(13,.func (.func 83) #[] #[]),(14,.agg #[pt pr])] rfl ⟨bt,rfl,Ac⟩ ?_
   refine CJ [] [] 83 #[.agg #[pt pr]] (some 15) Ac ?_
   intro w7 hw7
   have hlew7:=BQ.le (hw7.at (i:=1) (c:=(Bo pr F b ati 0)) rfl)
   refine(window_r w7 pr F b ati (hw7.at (i:=1) rfl)).mono ?_
   rintro e w11 (⟨x8,n9,hxw11,rfl,hRw11,hkw11⟩ | ⟨n10,hxw11,rfl,hkw11⟩)
   ·have hrngw11:=winAt_rng hB hxw11
    obtain⟨hnw11,hSw11⟩:=CB hw7 (i:=1) rfl hRw11 hkw11
    have hnw11':n5≤w11.heap.size:=hnw11
    refine .inl ⟨_,_,rfl,hSw11, ?_⟩
    refine Ey 0 1 [] [[o0]] [] [(1,.func (.func 83) #[] #[]),(2,pt z),(9,Ae n3),(10,Ae i),(12,.slice aL xs.length cL),(16,.slice (some ⟨w11.heap.size,0,none⟩) 1 1)] ⟨w,w11.heap.size+1,[(old F w),(Bo pr F b n9 0),(V8 z pr),(Au z 51 3 Af.cells (.slice aL xs.length cL) xs),(.blk w11.heap.size (.cells #[i6 x8.Partition,i6 x8.Cc,i6 x8.Dy] 51 (0,0)) true)]⟩ rfl Ac ?_
    refine E8 z 3 4 xs [(⟨x8.Partition,x8.Cc,x8.Dy⟩:Af)] Af.cells 51 3 24 (.slice aL xs.length cL) w11.heap.size 1 1 #[i6 x8.Partition,i6 x8.Cc,i6 x8.Dy] 51 (0,0) true (some 17) (by simp only[List.length_cons,List.length_nil];omega) (show z≤w11.heap.size+1 by omega) (fun ax12 cp13 n14 (hn15:w11.heap.size+1≤n14) => ?_)
    refine AC 5 0 [] [[o0],[(ov (i6 ((i+1:Nat):Int))),o0]] [Wr ((i:Int)+1) (((i+1:Nat):Int))] [(1,.func (.func 83) #[] #[]),(2,pt z),(9,Ae n3),(10,i6 ((i+1:Nat):Int)),(6,.slice ax12 ((xs++[(⟨x8.Partition,x8.Cc,x8.Dy⟩:Af)]).length) cp13)] rfl ⟨Bq,Ac⟩ ?_
    refine CG [0,1,2,3] [(old F w),(Bo pr F b n9 0),(V8 z pr),(Au z 51 3 Af.cells (.slice ax12 ((xs++[(⟨x8.Partition,x8.Cc,x8.Dy⟩:Af)]).length) cp13) (xs++[(⟨x8.Partition,x8.Cc,x8.Dy⟩:Af)]))] rfl rfl ?_
    refine Ce [1,2,6,9,10] [(1,.func (.func 83) #[] #[]),(2,pt z),(6,.slice ax12 ((xs++[(⟨x8.Partition,x8.Cc,x8.Dy⟩:Af)]).length) cp13),(9,Ae n3),(10,i6 ((i+1:Nat):Int))] ?_
    refine BB (fun a w' hs=>⟨n3 - (i+1),by omega,n14,(i+1),(xs++[(⟨x8.Partition,x8.Cc,x8.Dy⟩:Af)]),n9,ax12,cp13,rfl,by omega,by omega,Na hm hxw11,hs⟩)
   have hnw11:n5≤w11.heap.size:=AB hw7 hkw11
   have hSw11:=BZ hw7 [0,2,3] (i:=1) rfl rfl rfl rfl hkw11
   refine .inr ⟨_,_,rfl,hSw11, ?_⟩
   refine Ba ?_
   intro w16 hw16
   exact .inr ⟨_,QS (by omega) hnn3 (by omega) hm hxw11,rfl,A7 hw16⟩
  refine Aw 15 0 [0] [[oF],[o0,o0]] [BF ((i:Int)<(n3:Int))] [(4,.slice aL xs.length cL)] rfl ⟨bf,Ac⟩ ?_
  refine AU [] [] (.slice aL xs.length cL) Ac ?_
  intro w17 hw17
  have hrow:=hw17.at (i:=3) (c:=(Au z 51 3 Af.cells (.slice aL xs.length cL) xs)) rfl
  exact .inl ⟨xs,ati,_,_,QZ (by omega) hnn3 (by omega) hm,rfl,hw17.at (i:=1) rfl,A7 hw17,hz ▸ hrow⟩
 have hnw2:z+1≤w2.heap.size:=AB hw1 hkw2
 have hSw2:=BZ hw1 [0,2] (i:=1) rfl rfl rfl rfl hkw2
 refine .inr ⟨_,_,rfl,hSw2, ?_⟩
 refine Ba ?_
 intro w18 hw18
 exact .inr ⟨_,PP (by omega),rfl,A7 hw18⟩
section
variable (z pr:Nat)
abbrev UU:=bk z #[pt pr] 117
end
theorem takeR(w:World)(pr:Nat)(F:Nat→Prop)(b:List Int)(at0:Nat)(hr:BQ w pr F b at0 0):Calls Try.prog 87 #[.agg #[.pointer (some ⟨pr,0,none⟩)],.func (.func 88) #[] #[]] w fun e w'=>XQ w pr F b (EZ b (KR b) at0) 53 4 Ak.cells e w':=by
 obtain⟨z,hz⟩:∃ z,z=w.heap.size:=⟨_,rfl⟩
 refine Bc (args:=[.agg #[pt pr],.func (.func 88) #[] #[]]) 20 ⟨w,z,[(old F w),(Bo pr F b at0 0)]⟩ Try.func87 rfl (by kernel_rfl) (by kernel_rfl) (hz ▸ FZ hr) ?_
 have hB:=hr.Nh;have hlen:=hr.len;have hat:=hr.le
 refine Bj [0,1] [(0,.agg #[pt pr]),(1,.func (.func 88) #[] #[])] ?_
 refine q_c 6 1 [] [[o0,o0],[(a1 2)]] [Qb z] [(1,.func (.func 88) #[] #[]),(2,pt z),(7,.agg #[pt pr])] ⟨w,z+1,[(old F w),(Bo pr F b at0 0),(UU z pr)]⟩ rfl ⟨rfl,Ac⟩ ?_
 refine CJ [] [] 81 #[.agg #[pt pr]] (some 8) Ac ?_
 intro w1 hw1
 have hlew1:=BQ.le (hw1.at (i:=1) (c:=(Bo pr F b at0 0)) rfl)
 refine(TJ w1 pr F b at0 (hw1.at (i:=1) rfl)).mono ?_
 rintro e w2 (⟨hqw2,rfl,hRw2,hkw2⟩ | ⟨hqw2,rfl,hkw2⟩)
 ·have hvbw2:=GZ hB at0
  obtain⟨n3,hnn3⟩:∃ n:Nat,(gd b at0)=(n:Int):=⟨_,(Int.toNat_of_nonneg hvbw2.1).symm⟩;rw[hnn3]
  obtain⟨hnw2,hSw2⟩:=CB hw1 (i:=1) rfl hRw2 hkw2
  have hnw2':z+1≤w2.heap.size:=hnw2
  refine .inl ⟨_,_,rfl,hSw2, ?_⟩
  refine AC 12 0 [] [[o0],[o0],[o0,o0]] [] [(1,.func (.func 88) #[] #[]),(2,pt z),(6,.slice none 0 0),(9,Ae n3),(10,i6 0)] rfl Ac ?_
  refine FW z 53 4 Ak.cells ?_
  refine Bl (fun m a w'=>∃ (n5:Nat) (i:Nat) (xs:List Ak) (ati:Nat) (aL:Option Addr) (cL:Nat),m=n3 - i∧w2.heap.size≤n5∧(i≤n3)∧(many (KR b) i (at0+1) = .ok xs ati)∧St 20 [(1,.func (.func 88) #[] #[]),(2,pt z),(6,.slice aL xs.length cL),(9,Ae n3),(10,Ae i)] [] ⟨w,n5,[(old F w),(Bo pr F b ati 0),(UU z pr),(Au z 53 4 Ak.cells (.slice aL xs.length cL) xs)]⟩ a w') (n3 - 0) ?_ ?_
  ·intro a w' hs;exact⟨w2.heap.size,0,([]),(at0+1),none,0,rfl,Nat.le_refl _,Nat.zero_le _,rfl,hs⟩
  rintro m a w' ⟨n5,i,xs,ati,aL,cL,rfl,hn4,hki,hm,hs⟩
  refine(?_:G Try.prog 20 [(1,.func (.func 88) #[] #[]),(2,pt z),(6,.slice aL xs.length cL),(9,Ae n3),(10,Ae i)] [] ⟨w,n5,[(old F w),(Bo pr F b ati 0),(UU z pr),(Au z 53 4 Ak.cells (.slice aL xs.length cL) xs)]⟩ _ _ _) a w' hs
  clear hs a w'
  have hxl:=MP hm
  refine Bi ?_
  by_cases h6:(i:Int)<(n3:Int)
  ·refine Aw 10 3 [1] [[oT],[o0,o0,(a1 2)]] [BT ((i:Int)<(n3:Int)),Qb z] [(1,.func (.func 88) #[] #[]),(2,pt z),(9,Ae n3),(10,Ae i),(12,.slice aL xs.length cL),(13,.func (.func 88) #[] #[]),(14,.agg #[pt pr])] rfl ⟨bt,rfl,Ac⟩ ?_
   refine CJ [] [] 88 #[.agg #[pt pr]] (some 15) Ac ?_
   intro w7 hw7
   have hlew7:=BQ.le (hw7.at (i:=1) (c:=(Bo pr F b ati 0)) rfl)
   refine(region_r w7 pr F b ati (hw7.at (i:=1) rfl)).mono ?_
   rintro e w11 (⟨x8,n9,hxw11,rfl,hRw11,hkw11⟩ | ⟨n10,hxw11,rfl,hkw11⟩)
   ·have hrngw11:=regAt_rng hB hxw11
    obtain⟨hnw11,hSw11⟩:=CB hw7 (i:=1) rfl hRw11 hkw11
    have hnw11':n5≤w11.heap.size:=hnw11
    refine .inl ⟨_,_,rfl,hSw11, ?_⟩
    refine Ey 0 1 [] [[o0]] [] [(1,.func (.func 88) #[] #[]),(2,pt z),(9,Ae n3),(10,Ae i),(12,.slice aL xs.length cL),(16,.slice (some ⟨w11.heap.size,0,none⟩) 1 1)] ⟨w,w11.heap.size+1,[(old F w),(Bo pr F b n9 0),(UU z pr),(Au z 53 4 Ak.cells (.slice aL xs.length cL) xs),(.blk w11.heap.size (.cells #[i6 x8.Ed,i6 x8.Dz,i6 x8.Frame,i6 x8.CX] 53 (0,0)) true)]⟩ rfl Ac ?_
    refine E8 z 3 4 xs [(⟨x8.Ed,x8.Dz,x8.Frame,x8.CX⟩:Ak)] Ak.cells 53 4 32 (.slice aL xs.length cL) w11.heap.size 1 1 #[i6 x8.Ed,i6 x8.Dz,i6 x8.Frame,i6 x8.CX] 53 (0,0) true (some 17) (by simp only[List.length_cons,List.length_nil];omega) (show z≤w11.heap.size+1 by omega) (fun ax12 cp13 n14 (hn15:w11.heap.size+1≤n14) => ?_)
    refine AC 5 0 [] [[o0],[(ov (i6 ((i+1:Nat):Int))),o0]] [Wr ((i:Int)+1) (((i+1:Nat):Int))] [(1,.func (.func 88) #[] #[]),(2,pt z),(9,Ae n3),(10,i6 ((i+1:Nat):Int)),(6,.slice ax12 ((xs++[(⟨x8.Ed,x8.Dz,x8.Frame,x8.CX⟩:Ak)]).length) cp13)] rfl ⟨Bq,Ac⟩ ?_
    refine CG [0,1,2,3] [(old F w),(Bo pr F b n9 0),(UU z pr),(Au z 53 4 Ak.cells (.slice ax12 ((xs++[(⟨x8.Ed,x8.Dz,x8.Frame,x8.CX⟩:Ak)]).length) cp13) (xs++[(⟨x8.Ed,x8.Dz,x8.Frame,x8.CX⟩:Ak)]))] rfl rfl ?_
    refine Ce [1,2,6,9,10] [(1,.func (.func 88) #[] #[]),(2,pt z),(6,.slice ax12 ((xs++[(⟨x8.Ed,x8.Dz,x8.Frame,x8.CX⟩:Ak)]).length) cp13),(9,Ae n3),(10,i6 ((i+1:Nat):Int))] ?_
    refine BB (fun a w' hs=>⟨n3 - (i+1),by omega,n14,(i+1),(xs++[(⟨x8.Ed,x8.Dz,x8.Frame,x8.CX⟩:Ak)]),n9,ax12,cp13,rfl,by omega,by omega,Na hm hxw11,hs⟩)
   have hnw11:n5≤w11.heap.size:=AB hw7 hkw11
   have hSw11:=BZ hw7 [0,2,3] (i:=1) rfl rfl rfl rfl hkw11
   refine .inr ⟨_,_,rfl,hSw11, ?_⟩
   refine Ba ?_
   intro w16 hw16
   exact .inr ⟨_,QS (by omega) hnn3 (by omega) hm hxw11,rfl,A7 hw16⟩
  refine Aw 15 0 [0] [[oF],[o0,o0]] [BF ((i:Int)<(n3:Int))] [(4,.slice aL xs.length cL)] rfl ⟨bf,Ac⟩ ?_
  refine AU [] [] (.slice aL xs.length cL) Ac ?_
  intro w17 hw17
  have hrow:=hw17.at (i:=3) (c:=(Au z 53 4 Ak.cells (.slice aL xs.length cL) xs)) rfl
  exact .inl ⟨xs,ati,_,_,QZ (by omega) hnn3 (by omega) hm,rfl,hw17.at (i:=1) rfl,A7 hw17,hz ▸ hrow⟩
 have hnw2:z+1≤w2.heap.size:=AB hw1 hkw2
 have hSw2:=BZ hw1 [0,2] (i:=1) rfl rfl rfl rfl hkw2
 refine .inr ⟨_,_,rfl,hSw2, ?_⟩
 refine Ba ?_
 intro w18 hw18
 exact .inr ⟨_,PP (by omega),rfl,A7 hw18⟩
section
variable (z pr:Nat)
abbrev V4:=bk z #[pt pr] 117
end
theorem takeP(w:World)(pr:Nat)(F:Nat→Prop)(b:List Int)(at0:Nat)(hr:BQ w pr F b at0 0):Calls Try.prog 89 #[.agg #[.pointer (some ⟨pr,0,none⟩)],.func (.func 90) #[] #[]] w fun e w'=>XQ w pr F b (EZ b (KL b) at0) 55 2 Ap.cells e w':=by
 obtain⟨z,hz⟩:∃ z,z=w.heap.size:=⟨_,rfl⟩
 refine Bc (args:=[.agg #[pt pr],.func (.func 90) #[] #[]]) 20 ⟨w,z,[(old F w),(Bo pr F b at0 0)]⟩ Try.func89 rfl (by kernel_rfl) (by kernel_rfl) (hz ▸ FZ hr) ?_
 have hB:=hr.Nh;have hlen:=hr.len;have hat:=hr.le
 refine Bj [0,1] [(0,.agg #[pt pr]),(1,.func (.func 90) #[] #[])] ?_
 refine q_c 6 1 [] [[o0,o0],[(a1 2)]] [Qb z] [(1,.func (.func 90) #[] #[]),(2,pt z),(7,.agg #[pt pr])] ⟨w,z+1,[(old F w),(Bo pr F b at0 0),(V4 z pr)]⟩ rfl ⟨rfl,Ac⟩ ?_
 refine CJ [] [] 81 #[.agg #[pt pr]] (some 8) Ac ?_
 intro w1 hw1
 have hlew1:=BQ.le (hw1.at (i:=1) (c:=(Bo pr F b at0 0)) rfl)
 refine(TJ w1 pr F b at0 (hw1.at (i:=1) rfl)).mono ?_
 rintro e w2 (⟨hqw2,rfl,hRw2,hkw2⟩ | ⟨hqw2,rfl,hkw2⟩)
 ·have hvbw2:=GZ hB at0
  obtain⟨n3,hnn3⟩:∃ n:Nat,(gd b at0)=(n:Int):=⟨_,(Int.toNat_of_nonneg hvbw2.1).symm⟩;rw[hnn3]
  obtain⟨hnw2,hSw2⟩:=CB hw1 (i:=1) rfl hRw2 hkw2
  have hnw2':z+1≤w2.heap.size:=hnw2
  refine .inl ⟨_,_,rfl,hSw2, ?_⟩
  refine AC 12 0 [] [[o0],[o0],[o0,o0]] [] [(1,.func (.func 90) #[] #[]),(2,pt z),(6,.slice none 0 0),(9,Ae n3),(10,i6 0)] rfl Ac ?_
  refine FW z 55 2 Ap.cells ?_
  refine Bl (fun m a w'=>∃ (n5:Nat) (i:Nat) (xs:List Ap) (ati:Nat) (aL:Option Addr) (cL:Nat),m=n3 - i∧w2.heap.size≤n5∧(i≤n3)∧(many (KL b) i (at0+1) = .ok xs ati)∧St 20 [(1,.func (.func 90) #[] #[]),(2,pt z),(6,.slice aL xs.length cL),(9,Ae n3),(10,Ae i)] [] ⟨w,n5,[(old F w),(Bo pr F b ati 0),(V4 z pr),(Au z 55 2 Ap.cells (.slice aL xs.length cL) xs)]⟩ a w') (n3 - 0) ?_ ?_
  ·intro a w' hs;exact⟨w2.heap.size,0,([]),(at0+1),none,0,rfl,Nat.le_refl _,Nat.zero_le _,rfl,hs⟩
  rintro m a w' ⟨n5,i,xs,ati,aL,cL,rfl,hn4,hki,hm,hs⟩
  refine(?_:G Try.prog 20 [(1,.func (.func 90) #[] #[]),(2,pt z),(6,.slice aL xs.length cL),(9,Ae n3),(10,Ae i)] [] ⟨w,n5,[(old F w),(Bo pr F b ati 0),(V4 z pr),(Au z 55 2 Ap.cells (.slice aL xs.length cL) xs)]⟩ _ _ _) a w' hs
  clear hs a w'
  have hxl:=MP hm
  refine Bi ?_
  by_cases h6:(i:Int)<(n3:Int)
  ·refine Aw 10 3 [1] [[oT],[o0,o0,(a1 2)]] [BT ((i:Int)<(n3:Int)),Qb z] [(1,.func (.func 90) #[] #[]),(2,pt z),(9,Ae n3),(10,Ae i),(12,.slice aL xs.length cL),(13,.func (.func 90) #[] #[]),(14,.agg #[pt pr])] rfl ⟨bt,rfl,Ac⟩ ?_
   refine CJ [] [] 90 #[.agg #[pt pr]] (some 15) Ac ?_
   intro w7 hw7
   have hlew7:=BQ.le (hw7.at (i:=1) (c:=(Bo pr F b ati 0)) rfl)
   refine(port_r w7 pr F b ati (hw7.at (i:=1) rfl)).mono ?_
   rintro e w11 (⟨x8,n9,hxw11,rfl,hRw11,hkw11⟩ | ⟨n10,hxw11,rfl,hkw11⟩)
   ·have hrngw11:=portAt_rng hB hxw11
    obtain⟨hnw11,hSw11⟩:=CB hw7 (i:=1) rfl hRw11 hkw11
    have hnw11':n5≤w11.heap.size:=hnw11
    refine .inl ⟨_,_,rfl,hSw11, ?_⟩
    refine Ey 0 1 [] [[o0]] [] [(1,.func (.func 90) #[] #[]),(2,pt z),(9,Ae n3),(10,Ae i),(12,.slice aL xs.length cL),(16,.slice (some ⟨w11.heap.size,0,none⟩) 1 1)] ⟨w,w11.heap.size+1,[(old F w),(Bo pr F b n9 0),(V4 z pr),(Au z 55 2 Ap.cells (.slice aL xs.length cL) xs),(.blk w11.heap.size (.cells #[i6 x8.Channel,.bool x8.Source] 55 (0,0)) true)]⟩ rfl Ac ?_
    refine E8 z 3 4 xs [(⟨x8.Channel,x8.Source⟩:Ap)] Ap.cells 55 2 16 (.slice aL xs.length cL) w11.heap.size 1 1 #[i6 x8.Channel,.bool x8.Source] 55 (0,0) true (some 17) (by simp only[List.length_cons,List.length_nil];omega) (show z≤w11.heap.size+1 by omega) (fun ax12 cp13 n14 (hn15:w11.heap.size+1≤n14) => ?_)
    refine AC 5 0 [] [[o0],[(ov (i6 ((i+1:Nat):Int))),o0]] [Wr ((i:Int)+1) (((i+1:Nat):Int))] [(1,.func (.func 90) #[] #[]),(2,pt z),(9,Ae n3),(10,i6 ((i+1:Nat):Int)),(6,.slice ax12 ((xs++[(⟨x8.Channel,x8.Source⟩:Ap)]).length) cp13)] rfl ⟨Bq,Ac⟩ ?_
    refine CG [0,1,2,3] [(old F w),(Bo pr F b n9 0),(V4 z pr),(Au z 55 2 Ap.cells (.slice ax12 ((xs++[(⟨x8.Channel,x8.Source⟩:Ap)]).length) cp13) (xs++[(⟨x8.Channel,x8.Source⟩:Ap)]))] rfl rfl ?_
    refine Ce [1,2,6,9,10] [(1,.func (.func 90) #[] #[]),(2,pt z),(6,.slice ax12 ((xs++[(⟨x8.Channel,x8.Source⟩:Ap)]).length) cp13),(9,Ae n3),(10,i6 ((i+1:Nat):Int))] ?_
    refine BB (fun a w' hs=>⟨n3 - (i+1),by omega,n14,(i+1),(xs++[(⟨x8.Channel,x8.Source⟩:Ap)]),n9,ax12,cp13,rfl,by omega,by omega,Na hm hxw11,hs⟩)
   have hnw11:n5≤w11.heap.size:=AB hw7 hkw11
   have hSw11:=BZ hw7 [0,2,3] (i:=1) rfl rfl rfl rfl hkw11
   refine .inr ⟨_,_,rfl,hSw11, ?_⟩
   refine Ba ?_
   intro w16 hw16
   exact .inr ⟨_,QS (by omega) hnn3 (by omega) hm hxw11,rfl,A7 hw16⟩
  refine Aw 15 0 [0] [[oF],[o0,o0]] [BF ((i:Int)<(n3:Int))] [(4,.slice aL xs.length cL)] rfl ⟨bf,Ac⟩ ?_
  refine AU [] [] (.slice aL xs.length cL) Ac ?_
  intro w17 hw17
  have hrow:=hw17.at (i:=3) (c:=(Au z 55 2 Ap.cells (.slice aL xs.length cL) xs)) rfl
  exact .inl ⟨xs,ati,_,_,QZ (by omega) hnn3 (by omega) hm,rfl,hw17.at (i:=1) rfl,A7 hw17,hz ▸ hrow⟩
 have hnw2:z+1≤w2.heap.size:=AB hw1 hkw2
 have hSw2:=BZ hw1 [0,2] (i:=1) rfl rfl rfl rfl hkw2
 refine .inr ⟨_,_,rfl,hSw2, ?_⟩
 refine Ba ?_
 intro w18 hw18
 exact .inr ⟨_,PP (by omega),rfl,A7 hw18⟩
section
variable (z pr:Nat)
abbrev V7:=bk z #[pt pr] 117
end
theorem takeC(w:World)(pr:Nat)(F:Nat→Prop)(b:List Int)(at0:Nat)(hr:BQ w pr F b at0 0):Calls Try.prog 72 #[.agg #[.pointer (some ⟨pr,0,none⟩)],.func (.func 73) #[] #[]] w fun e w'=>XQ w pr F b (EZ b (H9 b) at0) 57 3 Ar.cells e w':=by
 obtain⟨z,hz⟩:∃ z,z=w.heap.size:=⟨_,rfl⟩
 refine Bc (args:=[.agg #[pt pr],.func (.func 73) #[] #[]]) 20 ⟨w,z,[(old F w),(Bo pr F b at0 0)]⟩ Try.func72 rfl (by kernel_rfl) (by kernel_rfl) (hz ▸ FZ hr) ?_
 have hB:=hr.Nh;have hlen:=hr.len;have hat:=hr.le
 refine Bj [0,1] [(0,.agg #[pt pr]),(1,.func (.func 73) #[] #[])] ?_
 refine q_c 6 1 [] [[o0,o0],[(a1 2)]] [Qb z] [(1,.func (.func 73) #[] #[]),(2,pt z),(7,.agg #[pt pr])] ⟨w,z+1,[(old F w),(Bo pr F b at0 0),(V7 z pr)]⟩ rfl ⟨rfl,Ac⟩ ?_
 refine CJ [] [] 81 #[.agg #[pt pr]] (some 8) Ac ?_
 intro w1 hw1
 have hlew1:=BQ.le (hw1.at (i:=1) (c:=(Bo pr F b at0 0)) rfl)
 refine(TJ w1 pr F b at0 (hw1.at (i:=1) rfl)).mono ?_
 rintro e w2 (⟨hqw2,rfl,hRw2,hkw2⟩ | ⟨hqw2,rfl,hkw2⟩)
 ·have hvbw2:=GZ hB at0
  obtain⟨n3,hnn3⟩:∃ n:Nat,(gd b at0)=(n:Int):=⟨_,(Int.toNat_of_nonneg hvbw2.1).symm⟩;rw[hnn3]
  obtain⟨hnw2,hSw2⟩:=CB hw1 (i:=1) rfl hRw2 hkw2
  have hnw2':z+1≤w2.heap.size:=hnw2
  refine .inl ⟨_,_,rfl,hSw2, ?_⟩
  refine AC 12 0 [] [[o0],[o0],[o0,o0]] [] [(1,.func (.func 73) #[] #[]),(2,pt z),(6,.slice none 0 0),(9,Ae n3),(10,i6 0)] rfl Ac ?_
  refine FW z 57 3 Ar.cells ?_
  refine Bl (fun m a w'=>∃ (n5:Nat) (i:Nat) (xs:List Ar) (ati:Nat) (aL:Option Addr) (cL:Nat),m=n3 - i∧w2.heap.size≤n5∧(i≤n3)∧(many (H9 b) i (at0+1) = .ok xs ati)∧St 20 [(1,.func (.func 73) #[] #[]),(2,pt z),(6,.slice aL xs.length cL),(9,Ae n3),(10,Ae i)] [] ⟨w,n5,[(old F w),(Bo pr F b ati 0),(V7 z pr),(Au z 57 3 Ar.cells (.slice aL xs.length cL) xs)]⟩ a w') (n3 - 0) ?_ ?_
  ·intro a w' hs;exact⟨w2.heap.size,0,([]),(at0+1),none,0,rfl,Nat.le_refl _,Nat.zero_le _,rfl,hs⟩
  rintro m a w' ⟨n5,i,xs,ati,aL,cL,rfl,hn4,hki,hm,hs⟩
  refine(?_:G Try.prog 20 [(1,.func (.func 73) #[] #[]),(2,pt z),(6,.slice aL xs.length cL),(9,Ae n3),(10,Ae i)] [] ⟨w,n5,[(old F w),(Bo pr F b ati 0),(V7 z pr),(Au z 57 3 Ar.cells (.slice aL xs.length cL) xs)]⟩ _ _ _) a w' hs
  clear hs a w'
  have hxl:=MP hm
  refine Bi ?_
  by_cases h6:(i:Int)<(n3:Int)
  ·refine Aw 10 3 [1] [[oT],[o0,o0,(a1 2)]] [BT ((i:Int)<(n3:Int)),Qb z] [(1,.func (.func 73) #[] #[]),(2,pt z),(9,Ae n3),(10,Ae i),(12,.slice aL xs.length cL),(13,.func (.func 73) #[] #[]),(14,.agg #[pt pr])] rfl ⟨bt,rfl,Ac⟩ ?_
   refine CJ [] [] 73 #[.agg #[pt pr]] (some 15) Ac ?_
   intro w7 hw7
   have hlew7:=BQ.le (hw7.at (i:=1) (c:=(Bo pr F b ati 0)) rfl)
   refine(channel_r w7 pr F b ati (hw7.at (i:=1) rfl)).mono ?_
   rintro e w11 (⟨x8,n9,hxw11,rfl,hRw11,hkw11⟩ | ⟨n10,hxw11,rfl,hkw11⟩)
   ·have hrngw11:=chanAt_rng hB hxw11
    obtain⟨hnw11,hSw11⟩:=CB hw7 (i:=1) rfl hRw11 hkw11
    have hnw11':n5≤w11.heap.size:=hnw11
    refine .inl ⟨_,_,rfl,hSw11, ?_⟩
    refine Ey 0 1 [] [[o0]] [] [(1,.func (.func 73) #[] #[]),(2,pt z),(9,Ae n3),(10,Ae i),(12,.slice aL xs.length cL),(16,.slice (some ⟨w11.heap.size,0,none⟩) 1 1)] ⟨w,w11.heap.size+1,[(old F w),(Bo pr F b n9 0),(V7 z pr),(Au z 57 3 Ar.cells (.slice aL xs.length cL) xs),(.blk w11.heap.size (.cells #[i6 x8.Kind,i6 x8.Words,i6 x8.Ei] 57 (0,0)) true)]⟩ rfl Ac ?_
    refine E8 z 3 4 xs [(⟨x8.Kind,x8.Words,x8.Ei⟩:Ar)] Ar.cells 57 3 24 (.slice aL xs.length cL) w11.heap.size 1 1 #[i6 x8.Kind,i6 x8.Words,i6 x8.Ei] 57 (0,0) true (some 17) (by simp only[List.length_cons,List.length_nil];omega) (show z≤w11.heap.size+1 by omega) (fun ax12 cp13 n14 (hn15:w11.heap.size+1≤n14) => ?_)
    refine AC 5 0 [] [[o0],[(ov (i6 ((i+1:Nat):Int))),o0]] [Wr ((i:Int)+1) (((i+1:Nat):Int))] [(1,.func (.func 73) #[] #[]),(2,pt z),(9,Ae n3),(10,i6 ((i+1:Nat):Int)),(6,.slice ax12 ((xs++[(⟨x8.Kind,x8.Words,x8.Ei⟩:Ar)]).length) cp13)] rfl ⟨Bq,Ac⟩ ?_
    refine CG [0,1,2,3] [(old F w),(Bo pr F b n9 0),(V7 z pr),(Au z 57 3 Ar.cells (.slice ax12 ((xs++[(⟨x8.Kind,x8.Words,x8.Ei⟩:Ar)]).length) cp13) (xs++[(⟨x8.Kind,x8.Words,x8.Ei⟩:Ar)]))] rfl rfl ?_
    refine Ce [1,2,6,9,10] [(1,.func (.func 73) #[] #[]),(2,pt z),(6,.slice ax12 ((xs++[(⟨x8.Kind,x8.Words,x8.Ei⟩:Ar)]).length) cp13),(9,Ae n3),(10,i6 ((i+1:Nat):Int))] ?_
    refine BB (fun a w' hs=>⟨n3 - (i+1),by omega,n14,(i+1),(xs++[(⟨x8.Kind,x8.Words,x8.Ei⟩:Ar)]),n9,ax12,cp13,rfl,by omega,by omega,Na hm hxw11,hs⟩)
   have hnw11:n5≤w11.heap.size:=AB hw7 hkw11
   have hSw11:=BZ hw7 [0,2,3] (i:=1) rfl rfl rfl rfl hkw11
   refine .inr ⟨_,_,rfl,hSw11, ?_⟩
   refine Ba ?_
   intro w16 hw16
   exact .inr ⟨_,QS (by omega) hnn3 (by omega) hm hxw11,rfl,A7 hw16⟩
  refine Aw 15 0 [0] [[oF],[o0,o0]] [BF ((i:Int)<(n3:Int))] [(4,.slice aL xs.length cL)] rfl ⟨bf,Ac⟩ ?_
  refine AU [] [] (.slice aL xs.length cL) Ac ?_
  intro w17 hw17
  have hrow:=hw17.at (i:=3) (c:=(Au z 57 3 Ar.cells (.slice aL xs.length cL) xs)) rfl
  exact .inl ⟨xs,ati,_,_,QZ (by omega) hnn3 (by omega) hm,rfl,hw17.at (i:=1) rfl,A7 hw17,hz ▸ hrow⟩
 have hnw2:z+1≤w2.heap.size:=AB hw1 hkw2
 have hSw2:=BZ hw1 [0,2] (i:=1) rfl rfl rfl rfl hkw2
 refine .inr ⟨_,_,rfl,hSw2, ?_⟩
 refine Ba ?_
 intro w18 hw18
 exact .inr ⟨_,PP (by omega),rfl,A7 hw18⟩
theorem core_r(w:World)(pr:Nat)(F:Nat→Prop)(b:List Int)(at0:Nat)(hr:BQ w pr F b at0 0):Calls Try.prog 69 #[.agg #[.pointer (some ⟨pr,0,none⟩)]] w fun e w'=>XQ w pr F b (EZ b (J7 b) at0) 51 3 Af.cells e w':=by
 obtain⟨z,hz⟩:∃ z,z=w.heap.size:=⟨_,rfl⟩
 refine Bc (args:=[.agg #[pt pr]]) 5 ⟨w,z,[(old F w),(Bo pr F b at0 0)]⟩ Try.func69 rfl (by kernel_rfl) (by kernel_rfl) (hz ▸ FZ hr) ?_
 have hB:=hr.Nh;have hlen:=hr.len;have hat:=hr.le
 refine Bj [0] [(0,.agg #[pt pr])] ?_
 refine q_c 6 1 [] [[o0,o0],[(a1 2)]] [Qb z] [(3,.agg #[pt pr])] ⟨w,z+1,[(old F w),(Bo pr F b at0 0),(bk z #[pt pr] 117)]⟩ rfl ⟨rfl,Ac⟩ ?_
 refine CJ [] [] 82 #[.agg #[pt pr],.func (.func 83) #[] #[]] (some 4) Ac ?_
 intro w1 hw1
 have hlew1:=BQ.le (hw1.at (i:=1) (c:=(Bo pr F b at0 0)) rfl)
 refine(takeW w1 pr F b at0 (hw1.at (i:=1) rfl)).mono ?_
 rintro e w7 (⟨x2,n3,ax5,cp6,hxw7,rfl,hRw7,hkw7,how7⟩ | ⟨n4,hxw7,rfl,hkw7⟩)
 ·obtain⟨hnw7,hSw7⟩:=UR hw1 (i:=1) rfl hRw7 hkw7 how7 z (show z≤z+1 by omega)
  have hnw7':z+1≤w7.heap.size:=hnw7
  have hllw7:=(PI hB hxw7).1
  refine .inl ⟨_,_,rfl,hSw7, ?_⟩
  refine AC 3 0 [] [[o0]] [] [(2,.slice ax5 x2.length cp6)] rfl Ac ?_
  refine AU [] [] (.slice ax5 x2.length cp6) Ac ?_
  intro w8 hw8
  have hrow:=hw8.at (i:=3) (c:=(Au z 51 3 Af.cells (.slice ax5 x2.length cp6) x2)) rfl
  exact .inl ⟨_,_,_,_,hxw7,rfl,hw8.at (i:=1) rfl,A7 hw8,hz ▸ hrow⟩
 have hnw7:z+1≤w7.heap.size:=AB hw1 hkw7
 have hSw7:=BZ hw1 [0,2] (i:=1) rfl rfl rfl rfl hkw7
 refine .inr ⟨_,_,rfl,hSw7, ?_⟩
 refine Ba ?_
 intro w9 hw9
 exact .inr ⟨_,hxw7,rfl,A7 hw9⟩
theorem YT{xs ys:List Int}(hx:Ef xs)(hy:Ef ys)(h:(strOf xs).toList=(strOf ys).toList):xs=ys:=by
 have h1:(xs.map (fun x=>UInt8.ofNat x.toNat))=(ys.map (fun x=>UInt8.ofNat x.toNat)):=by
  rw[Go.ByteArray.toList_eq,Go.ByteArray.toList_eq]at h
  exact h
 have hl:xs.length=ys.length:=by simpa using congrArg List.length h1
 refine List.ext_getElem hl (fun i h2 h3 => ?_)
 have h4:=congrArg (fun l=>l[i]?) h1
 simp only[List.getElem?_map,List.getElem?_eq_getElem h2,List.getElem?_eq_getElem h3,Option.map_some,Option.some.injEq]at h4
 have h5:=congrArg UInt8.toNat h4
 have a:=hx xs[i] (List.getElem_mem h2)
 have b:=hy ys[i] (List.getElem_mem h3)
 rw[UInt8.toNat_ofNat_of_lt' (by show _<256;omega),UInt8.toNat_ofNat_of_lt' (by show _<256;omega)]at h5
 omega
abbrev FO(w:World)(pc:Nat)(l:Sl Int)(at':Nat)(bad:Bool):Prop:=At w pc (.cells #[.slice l.a l.xs.length l.cap,.int .i64 (at':Nat),.bool bad] 121 (0,0))
theorem JC{w:World}{p:Nat}{cp:Array Value}{tp:TypeId}(hp:At w p (.cells cp tp (0,0))):Sat ⟨w,w.heap.size,[old (fun b=>b=p) w,.blk p (.cells cp tp (0,0)) true]⟩ w :=
 LM w _ _ (fun c hc=>by
  simp only[List.mem_cons,List.not_mem_nil,or_false]at hc
  subst hc
  exact⟨hp,Ch.DI _ _ _,fun b hb=>by
   have hb':b=p:=hb
   exact⟨by rw[hb'];exact(Array.getElem?_eq_some_iff.1 hp).1,hb'⟩⟩) (by simp)
theorem BR{A:AW}{w w':World}{i pc:Nat}{cp cp':Array Value}{tp:TypeId}(h:Sat A w)(hi:A.σ[i]? = some (.blk pc (.cells cp tp (0,0)) true))(hc:At w' pc (.cells cp' tp (0,0)))(hk:AV (fun b=>b=pc) w w'):A.n≤w'.heap.size∧Sat { A with n:=w'.heap.size,σ:=A.σ.set i (.blk pc (.cells cp' tp (0,0)) true) } w' :=
 ⟨AB h hk,h.QB hi rfl rfl hk hc (Ch.DI _ _ _) (fun b hb=> .inl hb) (fun b hb=>by
  have hb':b=pc:=hb
  rw[hb'];exact(Array.getElem?_eq_some_iff.1 hc).1)⟩
theorem cut_gd{b:List Int}{a n i:Nat}(hi:i<n)(hn:a+n≤b.length):gd (DV b a n) i=gd b (a+i):=by
 rw[Di (by rw[IY hn];exact hi),Di (by omega)]
 unfold DV;simp
def CutPost(w:World)(pc:Nat)(l:Sl Int)(at' n:Nat)(e:Ending)(w':World):Prop :=
 ((at'+n≤l.xs.length∧(∃ a cap,e = .returned (.slice a n cap)∧∀ (F:Nat→Prop) (wz:World),BD Bh 1 F wz l→BD Bh 1 F wz ⟨a,cap,DV l.xs at' n⟩)∧FO w' pc l (at'+n) false)∨(l.xs.length<at'+n∧e = .returned (.slice none 0 0)∧FO w' pc l at' true))∧AV (fun b=>b=pc) w w'
def Step{α:Type}(bad:Bool)(a0:Nat)(r:PR α)(bd:Bool)(a:Nat)(x:α):Prop:=(bad=true∧bd=true∧a=a0)∨(bad=false∧bd=false∧r = .ok x a)∨(bad=false∧bd=true∧r = .no a)
theorem Step.bind{α β:Type}{bad bd bd2:Bool}{a0 a a2:Nat}{r:PR α}{x:α}{f:α→Nat→PR β}{y:β}(h:Step bad a0 r bd a x)(h2:Step bd a (f x a) bd2 a2 y):Step bad a0 (r.bind f) bd2 a2 y:=by
 rcases h with⟨e1,e2,e3⟩ | ⟨e1,e2,e3⟩ | ⟨e1,e2,e3⟩ <;> subst e1 <;> subst e2
 ·subst e3
  rcases h2 with⟨-,g2,g3⟩ | ⟨g1, -⟩ | ⟨g1, -⟩
  ·exact .inl ⟨rfl,g2,g3⟩
  ·cases g1
  cases g1
 ·subst e3
  rcases h2 with⟨g1, -⟩ | ⟨-,g2,g3⟩ | ⟨-,g2,g3⟩
  ·cases g1
  ·exact .inr (.inl ⟨rfl,g2,g3⟩)
  exact .inr (.inr ⟨rfl,g2,g3⟩)
 subst e3
 rcases h2 with⟨-,g2,g3⟩ | ⟨g1, -⟩ | ⟨g1, -⟩
 ·subst g3;exact .inr (.inr ⟨rfl,g2,rfl⟩)
 ·cases g1
 cases g1
theorem Step.map{α β:Type}{bad bd:Bool}{a0 a:Nat}{r:PR α}{x:α}{g:α→β}(h:Step bad a0 r bd a x):Step bad a0 (r.bind fun x a=> .ok (g x) a) bd a (g x):=h.bind (by
 cases bd
 ·exact .inr (.inl ⟨rfl,rfl,rfl⟩)
 exact .inl ⟨rfl,rfl,rfl⟩)
def Zx{α:Type}(w:World)(pc:Nat)(l:Sl Int)(at':Nat)(bad:Bool)(r:PR α)(val:α→Value)(R:α→Prop)(e:Ending)(w':World):Prop :=
 ∃ x bd a,e = .returned (val x)∧Step bad at' r bd a x∧R x∧a≤l.xs.length∧FO w' pc l a bd∧AV (fun b=>b=pc) w w'
section
variable (pc:Nat)(l:Sl Int)(at0:Nat)
abbrev Vs:=bk pc #[.slice l.a l.xs.length l.cap,Ae at0,.bool false] 121
abbrev Sv:=(0,pt pc)
end
theorem UZ(w:World)(pc:Nat)(l:Sl Int)(at0:Nat)(hc:FO w pc l at0 false)(hl:BD Bh 1 (fun x=>x<w.heap.size∧¬ x=pc) w l)(hB:Ef l.xs)(hlen:l.xs.length≤16384)(hat:at0≤l.xs.length)(n:Nat)(hn:n≤4294967295∧(n=0→0<at0)):Calls Try.prog 61 #[.pointer (some ⟨pc,0,none⟩),.int .i64 (n:Int)] w fun e w'=>CutPost w pc l at0 n e w':=by
 obtain⟨z,hz⟩:∃ z,z=w.heap.size:=⟨_,rfl⟩
 refine Bc (args:=[pt pc,Ae n]) 51 ⟨w,z,[(old (fun b=>b=pc) w),(Vs pc l at0)]⟩ Try.func61 rfl (by kernel_rfl) (by kernel_rfl) (hz ▸ JC hc) ?_
 have hcap:l.xs.length≤l.cap:=hl.le
 refine Bj [0,1] [(Sv pc),(1,Ae n)] ?_
 refine Aw 6 0 [] [[o0]] [] [(Sv pc),(1,Ae n)] rfl Ac ?_
 by_cases h1:((l.xs.length:Int) - (at0:Int):Int)<(n:Int)
 ·refine D5 18 [0,1] [(old (fun b=>b=pc) w),(Vs pc l at0)] rfl rfl ?_
  refine Bz [(0,o0),(1,o0),(2,o0),(3,(a1 1)),(4,o0),(5,o0),(6,o0),(7,o0),(8,o0),(9,(a1 1)),(10,o0),(11,o0),(12,o0),(13,o0),(14,(a1 1)),(15,(ov (i6 ((l.xs.length:Int) - (at0:Int))))),(16,oT),(17,o0)] [0,1,23] [Qb pc,Qb pc,Qb pc,Wr ((l.xs.length:Int) - (at0:Int)) ((l.xs.length:Int) - (at0:Int)),BT ((n:Int) > ((l.xs.length:Int) - (at0:Int)))] (Dh 18 0) [(Sv pc),(1,Ae n),(23,.bool true)] ⟨rfl,rfl,rfl,Bq,bt,Ac⟩ ?_
  refine C9 ?_
  refine q_o 11 0 [1] [[o0,o0,o0,(a1 1)],[o0]] [Qb pc] [(4,.slice none 0 0)] ⟨w,z,[(old (fun b=>b=pc) w),(bk pc #[.slice l.a l.xs.length l.cap,Ae at0,.bool true] 121)]⟩ rfl ⟨rfl,Ac⟩ ?_
  refine AU [] [] (.slice none 0 0) Ac ?_
  intro w2 hw2
  exact⟨.inr ⟨by omega,rfl,hw2.at (i:=1) rfl⟩,A7 hw2⟩
 refine D5 18 [0,1] [(old (fun b=>b=pc) w),(Vs pc l at0)] rfl rfl ?_
 refine Bz [(0,o0),(1,o0),(2,o0),(3,(a1 1)),(4,o0),(5,o0),(6,o0),(7,o0),(8,o0),(9,(a1 1)),(10,o0),(11,o0),(12,o0),(13,o0),(14,(a1 1)),(15,(ov (i6 ((l.xs.length:Int) - (at0:Int))))),(16,oF),(17,o0)] [0,1,23] [Qb pc,Qb pc,Qb pc,Wr ((l.xs.length:Int) - (at0:Int)) ((l.xs.length:Int) - (at0:Int)),BF ((n:Int) > ((l.xs.length:Int) - (at0:Int)))] (Dh 18 0) [(Sv pc),(1,Ae n),(23,.bool false)] ⟨rfl,rfl,rfl,Bq,bf,Ac⟩ ?_
 refine C9 ?_
 refine Ce [0,1,23] [(Sv pc),(1,Ae n),(23,.bool false)] ?_
 refine Hu <| PQ <| Xe <| Hu <| Bi ?_
 obtain⟨b3,o4,ha5,hF7,hc6⟩:=((⟨hl,fun _ _=>trivial⟩:Dc Bh 1 (fun _ _ _=>True) _ _ _)).1.all (show 0<l.xs.length by omega)
 replace ha5:l.a=some ⟨b3,o4,none⟩:=ha5
 have hc8:=hc6 0 (show 0<l.xs.length by omega)
 have he9:=((⟨hl,fun _ _=>trivial⟩:Dc Bh 1 (fun _ _ _=>True) _ _ _)).2 0 (show 0<l.xs.length by omega)
 obtain⟨y10,hy10⟩:∃ y_,y_=gd l.xs 0:=⟨_,rfl⟩
 rw[←hy10]at he9 hc8
 by_cases h11:(l.cap:Nat)=at0
 ·refine D5 16 [0,1] [(old (fun b=>b=pc) w),(Vs pc l at0)] rfl rfl ?_
  refine Bz [(0,o0),(1,o0),(2,o0),(3,(DF 1 b3 o4 l)),(4,o0),(5,o0),(6,o0),(7,(a1 1)),(8,o0),(9,o0),(10,o0),(11,(a1 1)),(12,o0),(13,(ov (i6 ((at0+n:Nat):Int)))),(14,⟨.slc at0 (at0+n) false,none⟩),(15,o0)] [0,1,5] [Qb pc,Df b3 o4 l,Qb pc,Qb pc,Wr ((at0:Int)+(n:Int)) (((at0+n:Nat):Int)),BK at0,(((at0+n:Nat):Int):Int)=((at0+n:Nat):Int),at0≤at0+n,at0+n≤l.cap,l.cap=at0∨at0=0] (Dh 16 0) [(Sv pc),(1,Ae n),(5,.slice (some ⟨b3,o4,none⟩) ((at0+n) - at0) (l.cap - at0))] ⟨rfl,CZ ha5,rfl,rfl,Bq,rfl,rfl,(by omega),(by omega),.inl h11,Ac⟩ ?_
  refine C9 ?_
  refine q_o 10 0 [] [[o0,o0,o0,(a1 1),o0,(ov (i6 ((at0+n:Nat):Int))),o0,o0,(a1 1)],[o0,o0]] [Qb pc,Wr ((at0:Int)+(n:Int)) (((at0+n:Nat):Int)),Qb pc] [(4,.slice (some ⟨b3,o4,none⟩) ((at0+n) - at0) (l.cap - at0))] ⟨w,z,[(old (fun b=>b=pc) w),(bk pc #[.slice l.a l.xs.length l.cap,i6 ((at0+n:Nat):Int),.bool false] 121)]⟩ rfl ⟨rfl,Bq,rfl,Ac⟩ ?_
  refine AU [] [] (.slice (some ⟨b3,o4,none⟩) ((at0+n) - at0) (l.cap - at0)) Ac ?_
  intro w12 hw12
  have hl2:∀ (F:Nat→Prop) (wz:World),BD Bh 1 F wz l→BD Bh 1 F wz ⟨some ⟨b3,o4,none⟩,l.cap,l.xs⟩:=by intro F wz h0;rw[show l=⟨l.a,l.cap,l.xs⟩from rfl,ha5]at h0;exact h0
  exact⟨.inl ⟨by omega,⟨_,_,by rw[show(at0+n) - at0=n from by omega],fun F wz h0=>(by rw[show DV l.xs at0 n=[]from List.eq_nil_of_length_eq_zero (by rw[IY (by omega)];omega)];exact PT _ _)⟩,hw12.at (i:=1) rfl⟩,A7 hw12⟩
 refine D5 16 [0,1] [(old (fun b=>b=pc) w),(Vs pc l at0)] rfl rfl ?_
 refine Bz [(0,o0),(1,o0),(2,o0),(3,(DF 1 b3 o4 l)),(4,o0),(5,o0),(6,o0),(7,(a1 1)),(8,o0),(9,o0),(10,o0),(11,(a1 1)),(12,o0),(13,(ov (i6 ((at0+n:Nat):Int)))),(14,⟨.slc at0 (at0+n) true,none⟩),(15,o0)] [0,1,5] [Qb pc,Df b3 o4 l,Qb pc,Qb pc,Wr ((at0:Int)+(n:Int)) (((at0+n:Nat):Int)),BK at0,(((at0+n:Nat):Int):Int)=((at0+n:Nat):Int),at0≤at0+n,at0+n≤l.cap,l.cap≠at0,BG] (Dh 16 0) [(Sv pc),(1,Ae n),(5,.slice (some ⟨b3,o4+EC 1 at0,none⟩) ((at0+n) - at0) (l.cap - at0))] ⟨rfl,CZ ha5,rfl,rfl,Bq,rfl,rfl,(by omega),(by omega),h11,rfl,Ac⟩ ?_
 refine C9 ?_
 refine q_o 10 0 [] [[o0,o0,o0,(a1 1),o0,(ov (i6 ((at0+n:Nat):Int))),o0,o0,(a1 1)],[o0,o0]] [Qb pc,Wr ((at0:Int)+(n:Int)) (((at0+n:Nat):Int)),Qb pc] [(4,.slice (some ⟨b3,o4+EC 1 at0,none⟩) ((at0+n) - at0) (l.cap - at0))] ⟨w,z,[(old (fun b=>b=pc) w),(bk pc #[.slice l.a l.xs.length l.cap,i6 ((at0+n:Nat):Int),.bool false] 121)]⟩ rfl ⟨rfl,Bq,rfl,Ac⟩ ?_
 refine AU [] [] (.slice (some ⟨b3,o4+EC 1 at0,none⟩) ((at0+n) - at0) (l.cap - at0)) Ac ?_
 intro w13 hw13
 have hl2:∀ (F:Nat→Prop) (wz:World),BD Bh 1 F wz l→BD Bh 1 F wz ⟨some ⟨b3,o4,none⟩,l.cap,l.xs⟩:=by intro F wz h0;rw[show l=⟨l.a,l.cap,l.xs⟩from rfl,ha5]at h0;exact h0
 exact⟨.inl ⟨by omega,⟨_,_,by rw[show(at0+n) - at0=n from by omega],fun F wz h0=>sl_sub (hl2 F wz h0) (by omega) (by intro h;have h9:=congrArg List.length h;rw[List.length_nil]at h9;omega)⟩,hw13.at (i:=1) rfl⟩,A7 hw13⟩
theorem UA(w:World)(pc:Nat)(l:Sl Int)(at0:Nat)(hc:FO w pc l at0 true)(hl:BD Bh 1 (fun x=>x<w.heap.size∧¬ x=pc) w l)(hB:Ef l.xs)(hlen:l.xs.length≤16384)(hat:at0≤l.xs.length)(n:Nat):Calls Try.prog 61 #[.pointer (some ⟨pc,0,none⟩),.int .i64 (n:Int)] w fun e w'=>e = .returned (.slice none 0 0)∧FO w' pc l at0 true∧AV (fun b=>b=pc) w w':=by
 obtain⟨z,hz⟩:∃ z,z=w.heap.size:=⟨_,rfl⟩
 refine Bc (args:=[pt pc,Ae n]) 51 ⟨w,z,[(old (fun b=>b=pc) w),(bk pc #[.slice l.a l.xs.length l.cap,Ae at0,.bool true] 121)]⟩ Try.func61 rfl (by kernel_rfl) (by kernel_rfl) (hz ▸ JC hc) ?_
 have hcap:l.xs.length≤l.cap:=hl.le
 refine Bj [0,1] [(0,pt pc),(1,Ae n)] ?_
 refine Aw 6 0 [] [[o0]] [] [(0,pt pc),(1,Ae n)] rfl Ac ?_
 refine D5 18 [0,1] [(old (fun b=>b=pc) w),(bk pc #[.slice l.a l.xs.length l.cap,Ae at0,.bool true] 121)] rfl rfl ?_
 refine Bz [(0,o0),(1,o0),(2,o0),(3,(a1 1)),(4,o0),(5,o0),(6,o0),(7,o0),(8,o0),(9,o0),(10,o0),(11,o0),(12,o0),(13,o0),(14,o0),(15,o0),(16,o0),(17,o0)] [0,1,23] [Qb pc] (Dh 18 0) [(0,pt pc),(1,Ae n),(23,.bool true)] ⟨rfl,Ac⟩ ?_
 refine C9 ?_
 refine Io 11 0 [1] [[o0,o0,o0,(a1 1)],[o0]] [Qb pc] [(4,.slice none 0 0)] rfl ⟨rfl,Ac⟩ ?_
 refine AU [] [] (.slice none 0 0) Ac ?_
 intro w1 hw1
 exact⟨rfl,hw1.at (i:=1) rfl,A7 hw1⟩
def CNumPost(w:World)(pc:Nat)(l:Sl Int)(at' k:Nat)(e:Ending)(w':World):Prop :=
 ((at'+k≤l.xs.length∧e = .returned (.int .i64 (Az l.xs at' k))∧FO w' pc l (at'+k) false)∨(l.xs.length<at'+k∧e = .returned (.int .i64 0)∧FO w' pc l at' true))∧AV (fun b=>b=pc) w w'
theorem hv_step{b:List Int}{a k j:Nat}{y:Int}(hj:j<k)(hn:a+k≤b.length)(hy:y=gd (DV b a k) ((k:Int) - 1 - (j:Int)).toNat):hv b a k (j+1)=256*hv b a k j+y:=by
 rw[hy,cut_gd (by omega) hn,hv,show((a:Int)+((k:Int) - 1 - (j:Int))).toNat=a+((k:Int) - 1 - (j:Int)).toNat from by omega];omega
theorem SH(w:World)(pc:Nat)(l:Sl Int)(at0:Nat)(hc:FO w pc l at0 false)(hl:BD Bh 1 (fun x=>x<w.heap.size∧¬ x=pc) w l)(hB:Ef l.xs)(hlen:l.xs.length≤16384)(hat:at0≤l.xs.length)(k:Nat)(hk:1≤k∧k≤4):Calls Try.prog 63 #[.pointer (some ⟨pc,0,none⟩),.int .i64 (k:Int)] w fun e w'=>CNumPost w pc l at0 k e w':=by
 obtain⟨z,hz⟩:∃ z,z=w.heap.size:=⟨_,rfl⟩
 refine Bc (args:=[pt pc,Ae k]) 27 ⟨w,z,[(old (fun b=>b=pc) w),(bk pc #[.slice l.a l.xs.length l.cap,Ae at0,.bool false] 121)]⟩ Try.func63 rfl (by kernel_rfl) (by kernel_rfl) (hz ▸ JC hc) ?_
 refine Bj [0,1] [(0,pt pc),(1,Ae k)] ?_
 refine Aw 6 2 [] [[o0],[o0,o0]] [] [(8,pt pc),(9,Ae k)] rfl Ac ?_
 refine l_call [] [] 61 #[pt pc,Ae k] (some 10) Ac ?_
 intro w1 hw1
 refine(UZ w1 pc l at0 (hw1.at (i:=1) rfl) (Bf (fun x _ _ hx hv=>BC hv hx.2 _ (hw1.at (i:=0) rfl)) (fun x hx=>⟨Nat.lt_of_lt_of_le hx.1 (by rw[hw1.size];show w.heap.size≤z;omega),hx.2⟩) hl) hB hlen (by omega) k (by omega)).mono ?_
 rintro e w4 ⟨⟨hqw4,⟨ax2,cp3,rfl,hslw4⟩,hCw4⟩ | ⟨hqw4,rfl,hCw4⟩,hkw4⟩
 ·have hclw4:=IY (b:=l.xs) (at':=at0) (n:=k) (by omega)
  obtain⟨hnw4,hSw4⟩:=BR hw1 (i:=1) rfl hCw4 hkw4;have hnw4':z≤w4.heap.size:=hnw4
  refine⟨_,_,rfl,hSw4, ?_⟩
  refine AC 12 0 [] [[o0],[o0],[o0,o0,(ov (i6 ((k:Int) - 1))),o0]] [Wr ((k:Int) - 1) ((k:Int) - 1)] [(5,.slice ax2 k cp3),(6,i6 0),(7,i6 ((k:Int) - 1))] rfl ⟨Bq,Ac⟩ ?_
  refine Bl (fun m a w'=>∃ (n6:Nat) (j:Nat),m=k - j∧w4.heap.size≤n6∧(j≤k)∧St 27 [(5,.slice ax2 k cp3),(6,i6 (hv l.xs at0 k j)),(7,i6 ((k:Int) - 1 - (j:Int)))] [] ⟨w,n6,[(old (fun b=>b=pc) w),(bk pc #[.slice l.a l.xs.length l.cap,i6 ((at0+k:Nat):Int),.bool false] 121)]⟩ a w') (k - 0) ?_ ?_
  ·intro a w' hs;exact⟨w4.heap.size,0,rfl,Nat.le_refl _,Nat.zero_le _,by rw[show hv l.xs at0 k 0=0 from rfl,show(k:Int) - 1 - ((0:Nat):Int)=(k:Int) - 1 from by omega];exact hs⟩
  rintro m a w' ⟨n6,j,rfl,hn5,hj,hs⟩
  refine(?_:G Try.prog 27 [(5,.slice ax2 k cp3),(6,i6 (hv l.xs at0 k j)),(7,i6 ((k:Int) - 1 - (j:Int)))] [] ⟨w,n6,[(old (fun b=>b=pc) w),(bk pc #[.slice l.a l.xs.length l.cap,i6 ((at0+k:Nat):Int),.bool false] 121)]⟩ _ _ _) a w' hs
  clear hs a w'
  have hvj:=Qo hB at0 k j (by omega)
  refine Bi <| Bi ?_
  by_cases h7:((k:Int) - 1 - (j:Int):Int)<0
  ·refine Aw 14 0 [0] [[o0,oF],[o0,o0]] [BF (((k:Int) - 1 - (j:Int):Int)≥0)] [(4,i6 (hv l.xs at0 k j))] rfl ⟨bf,Ac⟩ ?_
   refine AU [] [] (i6 (hv l.xs at0 k j)) Ac ?_
   intro w8 hw8
   have hjk:j=k:=by omega
   exact⟨.inl ⟨by omega,by rw[hjk];rfl,hw8.at (i:=1) rfl⟩,A7 hw8⟩
  refine Aw 8 0 [1] [[o0,oT]] [BT (((k:Int) - 1 - (j:Int):Int)≥0)] [(5,.slice ax2 k cp3),(6,i6 (hv l.xs at0 k j)),(7,i6 ((k:Int) - 1 - (j:Int))),(15,.bool true)] rfl ⟨bt,Ac⟩ ?_
  obtain⟨b9,o10,ha11,hF13,hc12⟩:=((⟨hslw4 _ _ hl,fun _ _=>trivial⟩:Dc Bh 1 (fun _ _ _=>True) _ _ _)).1.all (show 0<(DV l.xs at0 k).length by omega)
  replace ha11:ax2=some ⟨b9,o10,none⟩:=ha11
  refine J5 [(5,.slice (some ⟨b9,o10,none⟩) k cp3),(6,i6 (hv l.xs at0 k j)),(7,i6 ((k:Int) - 1 - (j:Int))),(15,.bool true)] (by simp only[ha11]) ?_
  have hc14:=hc12 (((k:Int) - 1 - (j:Int)).toNat) (show((k:Int) - 1 - (j:Int)).toNat<(DV l.xs at0 k).length by omega)
  have he15:=((⟨hslw4 _ _ hl,fun _ _=>trivial⟩:Dc Bh 1 (fun _ _ _=>True) _ _ _)).2 (((k:Int) - 1 - (j:Int)).toNat) (show((k:Int) - 1 - (j:Int)).toNat<(DV l.xs at0 k).length by omega)
  obtain⟨y16,hy16⟩:∃ y_,y_=gd (DV l.xs at0 k) (((k:Int) - 1 - (j:Int)).toNat):=⟨_,rfl⟩
  rw[←hy16]at he15 hc14
  have hyby16:=GZ (Ol hB at0 k) ((k:Int) - 1 - (j:Int)).toNat;rw[←hy16]at hyby16
  refine Aw 6 0 [] [[o0,(ov (i6 (256*(hv l.xs at0 k j)))),o0,o0,(oi (((k:Int) - 1 - (j:Int)).toNat)),(oa [.via 0 (.int .u8 y16)]),(ov (i6 y16)),(ov (i6 ((256*(hv l.xs at0 k j))+y16))),o0],[o0,(ov (i6 (((k:Int) - 1 - (j:Int)) - 1))),o0]] [Wr ((256:Int)*(hv l.xs at0 k j)) (256*(hv l.xs at0 k j)),((k:Int) - 1 - (j:Int):Int)=((((k:Int) - 1 - (j:Int)).toNat:Nat):Int),((k:Int) - 1 - (j:Int)).toNat<k,BG,∀ w',Ch.holds (old (fun b=>b=pc) w) w'→w'.cell? ⟨b9,o10+((k:Int) - 1 - (j:Int)).toNat,none⟩=some (.int .u8 y16),Wr (y16) (y16),Wr ((256*(hv l.xs at0 k j):Int)+y16) ((256*(hv l.xs at0 k j))+y16),Wr (((k:Int) - 1 - (j:Int):Int) - 1) (((k:Int) - 1 - (j:Int)) - 1)] [(5,.slice (some ⟨b9,o10,none⟩) k cp3),(6,i6 ((256*(hv l.xs at0 k j))+y16)),(7,i6 (((k:Int) - 1 - (j:Int)) - 1))] rfl ⟨Bq,(by omega),(by omega),rfl,Dk (F:=fun b=>b=pc) hF13 (hc14 0 _ rfl),Bq rfl,Bq,Bq,Ac⟩ ?_
  refine Ju [5,6,7] [(5,.slice ax2 k cp3),(6,i6 ((256*(hv l.xs at0 k j))+y16)),(7,i6 (((k:Int) - 1 - (j:Int)) - 1))] (by simp only[ha11];rfl) ?_
  refine BB (fun a w' hs=>⟨k - (j+1),by omega,n6,(j+1),rfl,by omega,by omega,by rw[hv_step (by omega) (by omega) hy16,show(k:Int) - 1 - ((j+1:Nat):Int)=(k:Int) - 1 - (j:Int) - 1 from by omega];exact hs⟩)
 obtain⟨hnw4,hSw4⟩:=BR hw1 (i:=1) rfl hCw4 hkw4;have hnw4':z≤w4.heap.size:=hnw4
 refine⟨_,_,rfl,hSw4, ?_⟩
 refine AC 12 0 [] [[o0],[o0],[o0,o0,o0,o0]] [] [(5,.slice none 0 0),(6,i6 0),(7,i6 (-1))] rfl Ac ?_
 refine Bl (fun m a w'=>∃ (n18:Nat),m=0∧w4.heap.size≤n18∧St 27 [(5,.slice none 0 0),(6,i6 0),(7,i6 (-1))] [] ⟨w,n18,[(old (fun b=>b=pc) w),(bk pc #[.slice l.a l.xs.length l.cap,Ae at0,.bool true] 121)]⟩ a w') (0) ?_ ?_
 ·intro a w' hs;exact⟨w4.heap.size,rfl,Nat.le_refl _,hs⟩
 rintro m a w' ⟨n18,rfl,hn17,hs⟩
 refine(?_:G Try.prog 27 [(5,.slice none 0 0),(6,i6 0),(7,i6 (-1))] [] ⟨w,n18,[(old (fun b=>b=pc) w),(bk pc #[.slice l.a l.xs.length l.cap,Ae at0,.bool true] 121)]⟩ _ _ _) a w' hs
 clear hs a w'
 refine Aw 16 0 [0] [[o0,o0],[o0,o0]] [] [(4,i6 0)] rfl Ac ?_
 refine AU [] [] (i6 0) Ac ?_
 intro w19 hw19
 exact⟨.inr ⟨by omega,rfl,hw19.at (i:=1) rfl⟩,A7 hw19⟩
section
variable (pc:Nat)(l:Sl Int)(at0:Nat)
abbrev ZY:=bk pc #[.slice l.a l.xs.length l.cap,Ae at0,.bool true] 121
end
theorem Ux(w:World)(pc:Nat)(l:Sl Int)(at0:Nat)(hc:FO w pc l at0 true)(hl:BD Bh 1 (fun x=>x<w.heap.size∧¬ x=pc) w l)(hB:Ef l.xs)(hlen:l.xs.length≤16384)(hat:at0≤l.xs.length)(k:Nat)(hk:1≤k∧k≤4):Calls Try.prog 63 #[.pointer (some ⟨pc,0,none⟩),.int .i64 (k:Int)] w fun e w'=>e = .returned (.int .i64 0)∧FO w' pc l at0 true∧AV (fun b=>b=pc) w w':=by
 obtain⟨z,hz⟩:∃ z,z=w.heap.size:=⟨_,rfl⟩
 refine Bc (args:=[pt pc,Ae k]) 27 ⟨w,z,[(old (fun b=>b=pc) w),(ZY pc l at0)]⟩ Try.func63 rfl (by kernel_rfl) (by kernel_rfl) (hz ▸ JC hc) ?_
 refine Bj [0,1] [(0,pt pc),(1,Ae k)] ?_
 refine Aw 6 2 [] [[o0],[o0,o0]] [] [(8,pt pc),(9,Ae k)] rfl Ac ?_
 refine l_call [] [] 61 #[pt pc,Ae k] (some 10) Ac ?_
 intro w1 hw1
 refine(UA w1 pc l at0 (hw1.at (i:=1) rfl) (Bf (fun x _ _ hx hv=>BC hv hx.2 _ (hw1.at (i:=0) rfl)) (fun x hx=>⟨Nat.lt_of_lt_of_le hx.1 (by rw[hw1.size];show w.heap.size≤z;omega),hx.2⟩) hl) hB hlen (by omega) k).mono ?_
 rintro e w2 ⟨rfl,hCw2,hkw2⟩
 obtain⟨hnw2,hSw2⟩:=BR hw1 (i:=1) rfl hCw2 hkw2;have hnw2':z≤w2.heap.size:=hnw2
 refine⟨_,_,rfl,hSw2, ?_⟩
 refine AC 12 0 [] [[o0],[o0],[o0,o0,o0,o0]] [] [(5,.slice none 0 0),(6,i6 0),(7,i6 (-1))] rfl Ac ?_
 refine Bl (fun m a w'=>∃ (n4:Nat),m=0∧w2.heap.size≤n4∧St 27 [(5,.slice none 0 0),(6,i6 0),(7,i6 (-1))] [] ⟨w,n4,[(old (fun b=>b=pc) w),(ZY pc l at0)]⟩ a w') (0) ?_ ?_
 ·intro a w' hs;exact⟨w2.heap.size,rfl,Nat.le_refl _,hs⟩
 rintro m a w' ⟨n4,rfl,hn3,hs⟩
 refine(?_:G Try.prog 27 [(5,.slice none 0 0),(6,i6 0),(7,i6 (-1))] [] ⟨w,n4,[(old (fun b=>b=pc) w),(ZY pc l at0)]⟩ _ _ _) a w' hs
 clear hs a w'
 refine Aw 16 0 [0] [[o0,o0],[o0,o0]] [] [(4,i6 0)] rfl Ac ?_
 refine AU [] [] (i6 0) Ac ?_
 intro w5 hw5
 exact⟨rfl,hw5.at (i:=1) rfl,A7 hw5⟩
section
variable (pc:Nat)
abbrev NE:=(0,pt pc)
end
theorem ctext_good(w:World)(pc:Nat)(l:Sl Int)(at0:Nat)(hc:FO w pc l at0 false)(hl:BD Bh 1 (fun x=>x<w.heap.size∧¬ x=pc) w l)(hB:Ef l.xs)(hlen:l.xs.length≤16384)(hat:at0≤l.xs.length):Calls Try.prog 91 #[.pointer (some ⟨pc,0,none⟩)] w fun e w'=>((∃ x a,Px l.xs at0 = .ok x a∧e = .returned (.string x)∧a≤l.xs.length∧FO w' pc l a false)∨(Px l.xs at0 = .no at0∧e = .returned (.string ⟨#[]⟩)∧FO w' pc l at0 true))∧AV (fun b=>b=pc) w w':=by
 obtain⟨z,hz⟩:∃ z,z=w.heap.size:=⟨_,rfl⟩
 refine Bc (args:=[pt pc]) 30 ⟨w,z,[(old (fun b=>b=pc) w),(bk pc #[.slice l.a l.xs.length l.cap,Ae at0,.bool false] 121)]⟩ Try.func91 rfl (by kernel_rfl) (by kernel_rfl) (hz ▸ JC hc) ?_
 refine Bj [0] [(NE pc)] ?_
 refine Aw 10 1 [] [[o0],[o0,o0,o0,(a1 1),o0],[o0]] [Qb pc] [(NE pc),(3,Ae at0),(10,pt pc)] rfl ⟨rfl,Ac⟩ ?_
 refine l_call [] [] 63 #[pt pc,i6 4] (some 11) Ac ?_
 intro w1 hw1
 refine(SH w1 pc l at0 (hw1.at (i:=1) rfl) (Bf (fun x _ _ hx hv=>BC hv hx.2 _ (hw1.at (i:=0) rfl)) (fun x hx=>⟨Nat.lt_of_lt_of_le hx.1 (by rw[hw1.size];show w.heap.size≤z;omega),hx.2⟩) hl) hB hlen (by omega) 4 ⟨by omega,by omega⟩).mono ?_
 rintro e w2 ⟨⟨hqw2,rfl,hCw2⟩ | ⟨hqw2,rfl,hCw2⟩,hkw2⟩
 ·have hvbw2:=Qo hB at0 4 4 (by omega);obtain⟨m,hm⟩:∃ m:Nat,Az l.xs at0 4=(m:Int):=⟨_,(Int.toNat_of_nonneg hvbw2.1).symm⟩;rw[hm];have hmv:hv l.xs at0 4 4=(m:Int):=hm
  obtain⟨hnw2,hSw2⟩:=BR hw1 (i:=1) rfl hCw2 hkw2;have hnw2':z≤w2.heap.size:=hnw2
  refine⟨_,_,rfl,hSw2, ?_⟩
  refine AC 4 0 [] [[o0]] [] [(NE pc),(3,Ae at0),(4,Ae m)] rfl Ac ?_
  by_cases h3:(255:Int)<(m:Int)
  ·refine q_c 9 2 [1] [[o0,oT],[o0,o0,o0,(a1 1)],[o0,o0]] [BT ((m:Int) > 255),Qb pc] [(NE pc),(3,Ae at0),(17,pt pc),(18,Ae m)] ⟨w,w2.heap.size,[(old (fun b=>b=pc) w),(bk pc #[.slice l.a l.xs.length l.cap,i6 ((at0+4:Nat):Int),.bool true] 121)]⟩ rfl ⟨bt,rfl,Ac⟩ ?_
   refine l_call [] [] 61 #[pt pc,Ae m] (some 19) Ac ?_
   intro w4 hw4
   refine(UA w4 pc l (at0+4) (hw4.at (i:=1) rfl) (Bf (fun x _ _ hx hv=>BC hv hx.2 _ (hw4.at (i:=0) rfl)) (fun x hx=>⟨Nat.lt_of_lt_of_le hx.1 (by rw[hw4.size];show w.heap.size≤w2.heap.size;omega),hx.2⟩) hl) hB hlen (by omega) m).mono ?_
   rintro e w5 ⟨rfl,hCw5,hkw5⟩
   obtain⟨hnw5,hSw5⟩:=BR hw4 (i:=1) rfl hCw5 hkw5;have hnw5':w2.heap.size≤w5.heap.size:=hnw5
   refine⟨_,_,rfl,hSw5, ?_⟩
   refine DX [0,3,19] [(NE pc),(3,Ae at0),(19,.slice none 0 0)] ?_
   refine N7 0 ([]:List Int) none 0 0 (old (fun b=>b=pc) w) (some 20) (fun x hx=>by cases hx) (fun w' hw=>PT _ _) ?_
   refine Ey 16 0 [1] [[o0],[o0,o0,o0,(a1 1)],[o0,o0,o0,o0,(a1 1)],[o0,o0]] [Qb pc,Qb pc] [(2,.string (strOf ([]:List Int)))] ⟨w,w5.heap.size,[(old (fun b=>b=pc) w),(bk pc #[.slice l.a l.xs.length l.cap,Ae at0,.bool true] 121)]⟩ rfl ⟨rfl,rfl,Ac⟩ ?_
   refine AU [] [] (.string (strOf ([]:List Int))) Ac ?_
   intro w6 hw6
   exact⟨.inr ⟨SG (by omega),rfl,hw6.at (i:=1) rfl⟩,A7 hw6⟩
  refine Aw 8 2 [0] [[o0,oF],[o0,o0]] [BF ((m:Int) > 255)] [(NE pc),(3,Ae at0),(17,pt pc),(18,Ae m)] rfl ⟨bf,Ac⟩ ?_
  refine l_call [] [] 61 #[pt pc,Ae m] (some 19) Ac ?_
  intro w7 hw7
  refine(UZ w7 pc l (at0+4) (hw7.at (i:=1) rfl) (Bf (fun x _ _ hx hv=>BC hv hx.2 _ (hw7.at (i:=0) rfl)) (fun x hx=>⟨Nat.lt_of_lt_of_le hx.1 (by rw[hw7.size];show w.heap.size≤w2.heap.size;omega),hx.2⟩) hl) hB hlen (by omega) m (by omega)).mono ?_
  rintro e w10 ⟨⟨hqw10,⟨ax8,cp9,rfl,hslw10⟩,hCw10⟩ | ⟨hqw10,rfl,hCw10⟩,hkw10⟩
  ·have hclw10:=IY (b:=l.xs) (at':=at0+4) (n:=m) (by omega)
   obtain⟨hnw10,hSw10⟩:=BR hw7 (i:=1) rfl hCw10 hkw10;have hnw10':w2.heap.size≤w10.heap.size:=hnw10
   refine⟨_,_,rfl,hSw10, ?_⟩
   refine DX [0,3,19] [(NE pc),(3,Ae at0),(19,.slice ax8 m cp9)] ?_
   refine N7 0 (DV l.xs (at0+4) m) ax8 m cp9 (old (fun b=>b=pc) w) (some 20) (Ol hB _ _) (sl_old (hslw10 _ _ hl) (fun b hb=>hb.2)) ?_ (IY (by omega))
   refine AC 15 0 [0] [[o0],[o0,o0,o0,(a1 1)],[o0,o0]] [Qb pc] [(2,.string (strOf (DV l.xs (at0+4) m)))] rfl ⟨rfl,Ac⟩ ?_
   refine AU [] [] (.string (strOf (DV l.xs (at0+4) m))) Ac ?_
   intro w11 hw11
   have hmn:(Az l.xs at0 4).toNat=m:=by omega
   exact⟨.inl ⟨_,_,J9 (by omega),by rw[hmn],by omega,by rw[hmn];exact hw11.at (i:=1) rfl⟩,A7 hw11⟩
  obtain⟨hnw10,hSw10⟩:=BR hw7 (i:=1) rfl hCw10 hkw10;have hnw10':w2.heap.size≤w10.heap.size:=hnw10
  refine⟨_,_,rfl,hSw10, ?_⟩
  refine DX [0,3,19] [(NE pc),(3,Ae at0),(19,.slice none 0 0)] ?_
  refine N7 0 ([]:List Int) none 0 0 (old (fun b=>b=pc) w) (some 20) (fun x hx=>by cases hx) (fun w' hw=>PT _ _) ?_
  refine Ey 16 0 [1] [[o0],[o0,o0,o0,(a1 1)],[o0,o0,o0,o0,(a1 1)],[o0,o0]] [Qb pc,Qb pc] [(2,.string (strOf ([]:List Int)))] ⟨w,w10.heap.size,[(old (fun b=>b=pc) w),(bk pc #[.slice l.a l.xs.length l.cap,Ae at0,.bool true] 121)]⟩ rfl ⟨rfl,rfl,Ac⟩ ?_
  refine AU [] [] (.string (strOf ([]:List Int))) Ac ?_
  intro w12 hw12
  exact⟨.inr ⟨SG (by omega),rfl,hw12.at (i:=1) rfl⟩,A7 hw12⟩
 obtain⟨hnw2,hSw2⟩:=BR hw1 (i:=1) rfl hCw2 hkw2;have hnw2':z≤w2.heap.size:=hnw2
 refine⟨_,_,rfl,hSw2, ?_⟩
 refine AC 12 2 [0] [[o0],[o0,o0],[o0,o0]] [] [(NE pc),(3,Ae at0),(17,pt pc),(18,i6 0)] rfl Ac ?_
 refine l_call [] [] 61 #[pt pc,i6 0] (some 19) Ac ?_
 intro w13 hw13
 refine(UA w13 pc l at0 (hw13.at (i:=1) rfl) (Bf (fun x _ _ hx hv=>BC hv hx.2 _ (hw13.at (i:=0) rfl)) (fun x hx=>⟨Nat.lt_of_lt_of_le hx.1 (by rw[hw13.size];show w.heap.size≤w2.heap.size;omega),hx.2⟩) hl) hB hlen (by omega) 0).mono ?_
 rintro e w14 ⟨rfl,hCw14,hkw14⟩
 obtain⟨hnw14,hSw14⟩:=BR hw13 (i:=1) rfl hCw14 hkw14;have hnw14':w2.heap.size≤w14.heap.size:=hnw14
 refine⟨_,_,rfl,hSw14, ?_⟩
 refine DX [0,3,19] [(NE pc),(3,Ae at0),(19,.slice none 0 0)] ?_
 refine N7 0 ([]:List Int) none 0 0 (old (fun b=>b=pc) w) (some 20) (fun x hx=>by cases hx) (fun w' hw=>PT _ _) ?_
 refine AC 16 0 [1] [[o0],[o0,o0,o0,(a1 1)],[o0,o0,o0,o0,(a1 1)],[o0,o0]] [Qb pc,Qb pc] [(2,.string (strOf ([]:List Int)))] rfl ⟨rfl,rfl,Ac⟩ ?_
 refine AU [] [] (.string (strOf ([]:List Int))) Ac ?_
 intro w15 hw15
 exact⟨.inr ⟨SG (by omega),rfl,hw15.at (i:=1) rfl⟩,A7 hw15⟩
theorem ctext_bad(w:World)(pc:Nat)(l:Sl Int)(at0:Nat)(hc:FO w pc l at0 true)(hl:BD Bh 1 (fun x=>x<w.heap.size∧¬ x=pc) w l)(hB:Ef l.xs)(hlen:l.xs.length≤16384)(hat:at0≤l.xs.length):Calls Try.prog 91 #[.pointer (some ⟨pc,0,none⟩)] w fun e w'=>e = .returned (.string ⟨#[]⟩)∧FO w' pc l at0 true∧AV (fun b=>b=pc) w w':=by
 obtain⟨z,hz⟩:∃ z,z=w.heap.size:=⟨_,rfl⟩
 refine Bc (args:=[pt pc]) 30 ⟨w,z,[(old (fun b=>b=pc) w),(bk pc #[.slice l.a l.xs.length l.cap,Ae at0,.bool true] 121)]⟩ Try.func91 rfl (by kernel_rfl) (by kernel_rfl) (hz ▸ JC hc) ?_
 refine Bj [0] [(0,pt pc)] ?_
 refine Aw 10 1 [] [[o0],[o0,o0,o0,(a1 1),o0],[o0]] [Qb pc] [(0,pt pc),(3,Ae at0),(10,pt pc)] rfl ⟨rfl,Ac⟩ ?_
 refine l_call [] [] 63 #[pt pc,i6 4] (some 11) Ac ?_
 intro w1 hw1
 refine(Ux w1 pc l at0 (hw1.at (i:=1) rfl) (Bf (fun x _ _ hx hv=>BC hv hx.2 _ (hw1.at (i:=0) rfl)) (fun x hx=>⟨Nat.lt_of_lt_of_le hx.1 (by rw[hw1.size];show w.heap.size≤z;omega),hx.2⟩) hl) hB hlen (by omega) 4 ⟨by omega,by omega⟩).mono ?_
 rintro e w2 ⟨rfl,hCw2,hkw2⟩
 obtain⟨hnw2,hSw2⟩:=BR hw1 (i:=1) rfl hCw2 hkw2;have hnw2':z≤w2.heap.size:=hnw2
 refine⟨_,_,rfl,hSw2, ?_⟩
 refine AC 12 2 [0] [[o0],[o0,o0],[o0,o0]] [] [(0,pt pc),(3,Ae at0),(17,pt pc),(18,i6 0)] rfl Ac ?_
 refine l_call [] [] 61 #[pt pc,i6 0] (some 19) Ac ?_
 intro w3 hw3
 refine(UA w3 pc l at0 (hw3.at (i:=1) rfl) (Bf (fun x _ _ hx hv=>BC hv hx.2 _ (hw3.at (i:=0) rfl)) (fun x hx=>⟨Nat.lt_of_lt_of_le hx.1 (by rw[hw3.size];show w.heap.size≤w2.heap.size;omega),hx.2⟩) hl) hB hlen (by omega) 0).mono ?_
 rintro e w4 ⟨rfl,hCw4,hkw4⟩
 obtain⟨hnw4,hSw4⟩:=BR hw3 (i:=1) rfl hCw4 hkw4;have hnw4':w2.heap.size≤w4.heap.size:=hnw4
 refine⟨_,_,rfl,hSw4, ?_⟩
 refine DX [0,3,19] [(0,pt pc),(3,Ae at0),(19,.slice none 0 0)] ?_
 refine N7 0 ([]:List Int) none 0 0 (old (fun b=>b=pc) w) (some 20) (fun x hx=>by cases hx) (fun w' hw=>PT _ _) ?_
 refine AC 16 0 [1] [[o0],[o0,o0,o0,(a1 1)],[o0,o0,o0,o0,(a1 1)],[o0,o0]] [Qb pc,Qb pc] [(2,.string (strOf ([]:List Int)))] rfl ⟨rfl,rfl,Ac⟩ ?_
 refine AU [] [] (.string (strOf ([]:List Int))) Ac ?_
 intro w5 hw5
 exact⟨rfl,hw5.at (i:=1) rfl,A7 hw5⟩
theorem csrc_good(w:World)(pc:Nat)(l:Sl Int)(at0:Nat)(hc:FO w pc l at0 false)(hl:BD Bh 1 (fun x=>x<w.heap.size∧¬ x=pc) w l)(hB:Ef l.xs)(hlen:l.xs.length≤16384)(hat:at0≤l.xs.length):Calls Try.prog 98 #[.pointer (some ⟨pc,0,none⟩)] w fun e w'=>((∃ x a,QG l.xs at0 = .ok x a∧e = .returned (.bool x)∧a≤l.xs.length∧FO w' pc l a false)∨(QG l.xs at0 = .no at0∧e = .returned (.bool false)∧FO w' pc l at0 true))∧AV (fun b=>b=pc) w w':=by
 obtain⟨z,hz⟩:∃ z,z=w.heap.size:=⟨_,rfl⟩
 refine Bc (args:=[pt pc]) 22 ⟨w,z,[(old (fun b=>b=pc) w),(bk pc #[.slice l.a l.xs.length l.cap,Ae at0,.bool false] 121)]⟩ Try.func98 rfl (by kernel_rfl) (by kernel_rfl) (hz ▸ JC hc) ?_
 refine Bj [0] [(0,pt pc)] ?_
 refine Aw 10 1 [] [[o0],[o0,o0,o0,(a1 1),o0],[o0]] [Qb pc] [(0,pt pc),(3,Ae at0),(9,pt pc)] rfl ⟨rfl,Ac⟩ ?_
 refine l_call [] [] 63 #[pt pc,i6 1] (some 10) Ac ?_
 intro w1 hw1
 refine(SH w1 pc l at0 (hw1.at (i:=1) rfl) (Bf (fun x _ _ hx hv=>BC hv hx.2 _ (hw1.at (i:=0) rfl)) (fun x hx=>⟨Nat.lt_of_lt_of_le hx.1 (by rw[hw1.size];show w.heap.size≤z;omega),hx.2⟩) hl) hB hlen (by omega) 1 ⟨by omega,by omega⟩).mono ?_
 rintro e w2 ⟨⟨hqw2,rfl,hCw2⟩ | ⟨hqw2,rfl,hCw2⟩,hkw2⟩
 ·have hvbw2:=Qo hB at0 1 1 (by omega);obtain⟨m,hm⟩:∃ m:Nat,Az l.xs at0 1=(m:Int):=⟨_,(Int.toNat_of_nonneg hvbw2.1).symm⟩;rw[hm];have hmv:hv l.xs at0 1 1=(m:Int):=hm
  obtain⟨hnw2,hSw2⟩:=BR hw1 (i:=1) rfl hCw2 hkw2;have hnw2':z≤w2.heap.size:=hnw2
  refine⟨_,_,rfl,hSw2, ?_⟩
  refine AC 4 0 [] [[o0]] [] [(0,pt pc),(3,Ae at0),(4,Ae m)] rfl Ac ?_
  by_cases h3:(1:Int)<(m:Int)
  ·refine q_c 12 0 [1] [[o0,oT],[o0,o0,o0,(a1 1)],[o0,o0,o0,o0,(a1 1)]] [BT ((m:Int) > 1),Qb pc,Qb pc] [(4,Ae m)] ⟨w,w2.heap.size,[(old (fun b=>b=pc) w),(bk pc #[.slice l.a l.xs.length l.cap,Ae at0,.bool true] 121)]⟩ rfl ⟨bt,rfl,rfl,Ac⟩ ?_
   by_cases h4:(m:Int)=1
   ·refine Aw 4 0 [] [[o0,oT,o0]] [ET (m:Int) 1] [(2,.bool true)] rfl ⟨et,Ac⟩ ?_
    refine AU [] [] (.bool true) Ac ?_
    intro w5 hw5
    have hl1:=Ky (b:=l.xs) at0
    exfalso;omega
   refine Aw 4 0 [] [[o0,oF,o0]] [EF (m:Int) 1] [(2,.bool false)] rfl ⟨ef,Ac⟩ ?_
   refine AU [] [] (.bool false) Ac ?_
   intro w6 hw6
   have hl1:=Ky (b:=l.xs) at0
   exact⟨.inr ⟨Xd (by omega),rfl,hw6.at (i:=1) rfl⟩,A7 hw6⟩
  refine Aw 7 0 [0] [[o0,oF]] [BF ((m:Int) > 1)] [(0,pt pc),(3,Ae at0),(4,Ae m),(12,.bool false)] rfl ⟨bf,Ac⟩ ?_
  by_cases h7:(m:Int)=1
  ·refine Aw 4 0 [] [[o0,oT,o0]] [ET (m:Int) 1] [(2,.bool true)] rfl ⟨et,Ac⟩ ?_
   refine AU [] [] (.bool true) Ac ?_
   intro w8 hw8
   have hl1:=Ky (b:=l.xs) at0
   exact⟨.inl ⟨_,_,RZ (by omega),congrArg (fun x=>Ending.returned (Value.bool x)) (Eq.symm (decide_eq_true (by omega))),by omega,hw8.at (i:=1) rfl⟩,A7 hw8⟩
  refine Aw 4 0 [] [[o0,oF,o0]] [EF (m:Int) 1] [(2,.bool false)] rfl ⟨ef,Ac⟩ ?_
  refine AU [] [] (.bool false) Ac ?_
  intro w9 hw9
  have hl1:=Ky (b:=l.xs) at0
  exact⟨.inl ⟨_,_,RZ (by omega),congrArg (fun x=>Ending.returned (Value.bool x)) (Eq.symm (decide_eq_false (by omega))),by omega,hw9.at (i:=1) rfl⟩,A7 hw9⟩
 obtain⟨hnw2,hSw2⟩:=BR hw1 (i:=1) rfl hCw2 hkw2;have hnw2':z≤w2.heap.size:=hnw2
 refine⟨_,_,rfl,hSw2, ?_⟩
 refine AC 15 0 [0] [[o0],[o0,o0],[o0,o0,o0]] [] [(2,.bool false)] rfl Ac ?_
 refine AU [] [] (.bool false) Ac ?_
 intro w10 hw10
 have hl1:=Ky (b:=l.xs) at0
 exact⟨.inr ⟨Xd (by omega),rfl,hw10.at (i:=1) rfl⟩,A7 hw10⟩
theorem csrc_bad(w:World)(pc:Nat)(l:Sl Int)(at0:Nat)(hc:FO w pc l at0 true)(hl:BD Bh 1 (fun x=>x<w.heap.size∧¬ x=pc) w l)(hB:Ef l.xs)(hlen:l.xs.length≤16384)(hat:at0≤l.xs.length):Calls Try.prog 98 #[.pointer (some ⟨pc,0,none⟩)] w fun e w'=>e = .returned (.bool false)∧FO w' pc l at0 true∧AV (fun b=>b=pc) w w':=by
 obtain⟨z,hz⟩:∃ z,z=w.heap.size:=⟨_,rfl⟩
 refine Bc (args:=[pt pc]) 22 ⟨w,z,[(old (fun b=>b=pc) w),(bk pc #[.slice l.a l.xs.length l.cap,Ae at0,.bool true] 121)]⟩ Try.func98 rfl (by kernel_rfl) (by kernel_rfl) (hz ▸ JC hc) ?_
 refine Bj [0] [(0,pt pc)] ?_
 refine Aw 10 1 [] [[o0],[o0,o0,o0,(a1 1),o0],[o0]] [Qb pc] [(0,pt pc),(3,Ae at0),(9,pt pc)] rfl ⟨rfl,Ac⟩ ?_
 refine l_call [] [] 63 #[pt pc,i6 1] (some 10) Ac ?_
 intro w1 hw1
 refine(Ux w1 pc l at0 (hw1.at (i:=1) rfl) (Bf (fun x _ _ hx hv=>BC hv hx.2 _ (hw1.at (i:=0) rfl)) (fun x hx=>⟨Nat.lt_of_lt_of_le hx.1 (by rw[hw1.size];show w.heap.size≤z;omega),hx.2⟩) hl) hB hlen (by omega) 1 ⟨by omega,by omega⟩).mono ?_
 rintro e w2 ⟨rfl,hCw2,hkw2⟩
 obtain⟨hnw2,hSw2⟩:=BR hw1 (i:=1) rfl hCw2 hkw2;have hnw2':z≤w2.heap.size:=hnw2
 refine⟨_,_,rfl,hSw2, ?_⟩
 refine AC 15 0 [0] [[o0],[o0,o0],[o0,o0,o0]] [] [(2,.bool false)] rfl Ac ?_
 refine AU [] [] (.bool false) Ac ?_
 intro w3 hw3
 exact⟨rfl,hw3.at (i:=1) rfl,A7 hw3⟩
section
variable {w:World}{pc:Nat}{l:Sl Int}{at0:Nat}{bad:Bool}
theorem Dl(hc:FO w pc l at0 bad)(hl:BD Bh 1 (fun x=>x<w.heap.size∧¬ x=pc) w l)(hB:Ef l.xs)(hlen:l.xs.length≤16384)(hat:at0≤l.xs.length):Calls Try.prog 63 #[.pointer (some ⟨pc,0,none⟩),.int .i64 4] w fun e w'=>Zx w pc l at0 bad (numAt l.xs at0) (fun v=> .int .i64 v) (fun v=>0≤v∧v≤4294967295) e w':=by
 cases bad
 ·refine(SH w pc l at0 hc hl hB hlen hat 4 ⟨by omega,by omega⟩).mono ?_
  rintro e w' ⟨⟨h1,rfl,h2⟩ | ⟨h1,rfl,h2⟩,hk⟩
  ·exact⟨_,false,_,rfl,.inr (.inl ⟨rfl,rfl,AZ h1⟩),Du hB at0,h1,h2,hk⟩
  exact⟨0,true,_,rfl,.inr (.inr ⟨rfl,rfl,DU (by omega)⟩),⟨by omega,by omega⟩,hat,h2,hk⟩
 refine(Ux w pc l at0 hc hl hB hlen hat 4 ⟨by omega,by omega⟩).mono ?_
 rintro e w' ⟨rfl,h2,hk⟩
 exact⟨0,true,_,rfl,.inl ⟨rfl,rfl,rfl⟩,⟨by omega,by omega⟩,hat,h2,hk⟩
theorem Ip(hc:FO w pc l at0 bad)(hl:BD Bh 1 (fun x=>x<w.heap.size∧¬ x=pc) w l)(hB:Ef l.xs)(hlen:l.xs.length≤16384)(hat:at0≤l.xs.length):Calls Try.prog 63 #[.pointer (some ⟨pc,0,none⟩),.int .i64 1] w fun e w'=>Zx w pc l at0 bad (byteAt l.xs at0) (fun v=> .int .i64 v) (fun v=>(0≤v∧v≤255)∧(bad=true→v=0)) e w':=by
 cases bad
 ·refine(SH w pc l at0 hc hl hB hlen hat 1 ⟨by omega,by omega⟩).mono ?_
  have h0:=Ky (b:=l.xs) at0
  have h9:=GZ hB at0
  rintro e w' ⟨⟨h1,rfl,h2⟩ | ⟨h1,rfl,h2⟩,hk⟩
  ·exact⟨_,false,_,rfl,.inr (.inl ⟨rfl,rfl,by rw[h0];exact SI h1⟩),⟨by omega,by simp⟩,h1,h2,hk⟩
  exact⟨0,true,_,rfl,.inr (.inr ⟨rfl,rfl,YX (by omega)⟩),⟨by omega,by simp⟩,hat,h2,hk⟩
 refine(Ux w pc l at0 hc hl hB hlen hat 1 ⟨by omega,by omega⟩).mono ?_
 rintro e w' ⟨rfl,h2,hk⟩
 exact⟨0,true,_,rfl,.inl ⟨rfl,rfl,rfl⟩,⟨by omega,fun _=>rfl⟩,hat,h2,hk⟩
theorem stext_calls(hc:FO w pc l at0 bad)(hl:BD Bh 1 (fun x=>x<w.heap.size∧¬ x=pc) w l)(hB:Ef l.xs)(hlen:l.xs.length≤16384)(hat:at0≤l.xs.length):Calls Try.prog 91 #[.pointer (some ⟨pc,0,none⟩)] w fun e w'=>Zx w pc l at0 bad (Px l.xs at0) (fun v=> .string v) (fun _=>True) e w':=by
 cases bad
 ·refine(ctext_good w pc l at0 hc hl hB hlen hat).mono ?_
  rintro e w' ⟨⟨x,a,h1,rfl,h2,h3⟩ | ⟨h1,rfl,h2⟩,hk⟩
  ·exact⟨_,false,_,rfl,.inr (.inl ⟨rfl,rfl,h1⟩),Ac,h2,h3,hk⟩
  exact⟨_,true,_,rfl,.inr (.inr ⟨rfl,rfl,h1⟩),Ac,hat,h2,hk⟩
 refine(ctext_bad w pc l at0 hc hl hB hlen hat).mono ?_
 rintro e w' ⟨rfl,h2,hk⟩
 exact⟨_,true,_,rfl,.inl ⟨rfl,rfl,rfl⟩,Ac,hat,h2,hk⟩
theorem ssrc_calls(hc:FO w pc l at0 bad)(hl:BD Bh 1 (fun x=>x<w.heap.size∧¬ x=pc) w l)(hB:Ef l.xs)(hlen:l.xs.length≤16384)(hat:at0≤l.xs.length):Calls Try.prog 98 #[.pointer (some ⟨pc,0,none⟩)] w fun e w'=>Zx w pc l at0 bad (QG l.xs at0) (fun v=> .bool v) (fun _=>True) e w':=by
 cases bad
 ·refine(csrc_good w pc l at0 hc hl hB hlen hat).mono ?_
  rintro e w' ⟨⟨x,a,h1,rfl,h2,h3⟩ | ⟨h1,rfl,h2⟩,hk⟩
  ·exact⟨_,false,_,rfl,.inr (.inl ⟨rfl,rfl,h1⟩),Ac,h2,h3,hk⟩
  exact⟨_,true,_,rfl,.inr (.inr ⟨rfl,rfl,h1⟩),Ac,hat,h2,hk⟩
 refine(csrc_bad w pc l at0 hc hl hB hlen hat).mono ?_
 rintro e w' ⟨rfl,h2,hk⟩
 exact⟨_,true,_,rfl,.inl ⟨rfl,rfl,rfl⟩,Ac,hat,h2,hk⟩
end
def FH{α:Type}(bd1:Bool)(a1:Nat)(one:Nat→PR α)(i:Nat)(bd:Bool)(a:Nat)(xs:List α):Prop:=(bd1=true∧bd=true∧a=a1)∨(bd1=false∧bd=false∧many one i a1 = .ok xs a)∨(bd1=false∧bd=true∧∀ k,i≤k→many one k a1 = .no a)
theorem Jc{α:Type}(bd1:Bool)(a1:Nat)(one:Nat→PR α):FH bd1 a1 one 0 bd1 a1 []:=by
 cases bd1
 ·exact .inr (.inl ⟨rfl,rfl,rfl⟩)
 exact .inl ⟨rfl,rfl,rfl⟩
theorem FH.more{α:Type}{bd1 bd:Bool}{a1 a a2 i:Nat}{one:Nat→PR α}{xs:List α}{x:α}(h:FH bd1 a1 one i false a xs)(hx:Step false a (one a) bd a2 x):FH bd1 a1 one (i+1) bd a2 (xs++[x]):=by
 rcases h with⟨-,e, -⟩ | ⟨e1, -,h⟩ | ⟨-,e, -⟩
 ·cases e
 ·rcases hx with⟨e, -⟩ | ⟨-,e,h2⟩ | ⟨-,e,h2⟩
  ·cases e
  ·exact .inr (.inl ⟨e1,e,Na h h2⟩)
  exact .inr (.inr ⟨e1,e,fun k hk=>UY h h2 k (by omega)⟩)
 cases e
theorem FH.done{α:Type}{b:List Int}{bad bd1 bd:Bool}{a0 a1 a i n:Nat}{one:Nat→PR α}{xs:List α}(h1:Step bad a0 (byteAt b a0) bd1 a1 (n:Int))(h:FH bd1 a1 one i bd a xs)(hi:i=n∨(bd=true∧i≤n)):Step bad a0 (EZ b one a0) bd a xs:=by
 unfold EZ
 refine h1.bind ?_
 rw[Int.toNat_natCast]
 rcases h with⟨e1,e2,e3⟩ | ⟨e1,e2,h⟩ | ⟨e1,e2,h⟩
 ·exact .inl ⟨e1,e2,e3⟩
 ·rcases hi with hi | ⟨hb, -⟩
  ·exact .inr (.inl ⟨e1,e2,by rw[←hi];exact h⟩)
  rw[hb]at e2;cases e2
 exact .inr (.inr ⟨e1,e2,h n (by omega)⟩)
def Z4{α:Type}(w:World)(pc:Nat)(l:Sl Int)(at':Nat)(bad:Bool)(r:PR (List α))(E:TypeId)(sz:Nat)(cells:α→List Value)(e:Ending)(w':World):Prop :=
 ∃ xs bd a ad cap,e = .returned (.slice ad xs.length cap)∧Step bad at' r bd a xs∧xs.length≤255∧a≤l.xs.length∧FO w' pc l a bd∧AV (fun b=>b=pc) w w'∧(Au w.heap.size E sz cells (.slice ad xs.length cap) xs).holds w'
theorem Yw{α:Type}{A:AW}{w w':World}{i pc:Nat}{cp cp':Array Value}{tp e:TypeId}{sz:Nat}{cells:α→List Value}{v:Value}{xs:List α}(h:Sat A w)(hi:A.σ[i]? = some (.blk pc (.cells cp tp (0,0)) true))(hc:At w' pc (.cells cp' tp (0,0)))(hk:AV (fun b=>b=pc) w w')(ho:(Au w.heap.size e sz cells v xs).holds w')(z:Nat)(hz:z≤A.n):A.n≤w'.heap.size∧Sat { A with n:=w'.heap.size,σ:=A.σ.set i (.blk pc (.cells cp' tp (0,0)) true)++[Au z e sz cells v xs] } w' :=
 ⟨AB h hk,h.UF hi rfl rfl hk hc (Ch.DI _ _ _) (fun _ h=>h) (sat_one (Wu ho (by rw[h.size];exact hz)) (D9 _ _ _ _ _ _) (fun b hb=>((show w'.ownsRow w.heap.size e sz v xs.length (xs.flatMap cells)from ho).lt b hb).2)) (fun d hd b hb=>by rw[List.mem_singleton.1 hd]at hb;exact((show w'.ownsRow w.heap.size e sz v xs.length (xs.flatMap cells)from ho).lt b hb).1)⟩
section
variable (z:Nat)(aL:Option Addr)(xs:List Af)(cL pc:Nat)
abbrev V9:=Au z 51 3 Af.cells (.slice aL xs.length cL) xs
abbrev MQ:=(0,pt pc)
end
theorem cwins(w:World)(pc:Nat)(l:Sl Int)(at0:Nat)(bad:Bool)(hc:FO w pc l at0 bad)(hl:BD Bh 1 (fun x=>x<w.heap.size∧¬ x=pc) w l)(hB:Ef l.xs)(hlen:l.xs.length≤16384)(hat:at0≤l.xs.length):Calls Try.prog 77 #[.pointer (some ⟨pc,0,none⟩)] w fun e w'=>Z4 w pc l at0 bad (EZ l.xs (J7 l.xs) at0) 51 3 Af.cells e w':=by
 obtain⟨z,hz⟩:∃ z,z=w.heap.size:=⟨_,rfl⟩
 refine Bc (args:=[pt pc]) 38 ⟨w,z,[(old (fun b=>b=pc) w),(bk pc #[.slice l.a l.xs.length l.cap,Ae at0,.bool bad] 121)]⟩ Try.func77 rfl (by kernel_rfl) (by kernel_rfl) (hz ▸ JC hc) ?_
 refine Bj [0] [(MQ pc)] ?_
 refine Aw 10 1 [] [[o0],[o0],[o0]] [] [(MQ pc),(3,.slice none 0 0),(9,pt pc)] rfl Ac ?_
 refine l_call [] [] 63 #[pt pc,i6 1] (some 10) Ac ?_
 intro w1 hw1
 refine(Ip (hw1.at (i:=1) rfl) (Bf (fun x _ _ hx hv=>BC hv hx.2 _ (hw1.at (i:=0) rfl)) (fun x hx=>⟨Nat.lt_of_lt_of_le hx.1 (by rw[hw1.size];show w.heap.size≤z;omega),hx.2⟩) hl) hB hlen (by omega)).mono ?_
 rintro e w5 ⟨v2,d3,n4,rfl,hstw5,hrxw5,hlaw5,hCw5,hkw5⟩
 obtain⟨n6,rfl⟩:∃ n:Nat,v2=(n:Int):=⟨_,(Int.toNat_of_nonneg hrxw5.1.1).symm⟩
 obtain⟨hnw5,hSw5⟩:=BR hw1 (i:=1) rfl hCw5 hkw5;have hnw5':z≤w5.heap.size:=hnw5
 refine⟨_,_,rfl,hSw5, ?_⟩
 refine AC 8 0 [] [[o0],[o0]] [] [(MQ pc),(3,.slice none 0 0),(4,Ae n6),(5,i6 0)] rfl Ac ?_
 refine FW z 51 3 Af.cells ?_
 refine Bl (fun m a w'=>∃ (n8:Nat) (i:Nat) (xs:List Af) (ati:Nat) (bd:Bool) (aL:Option Addr) (cL:Nat),m=n6 - i∧w5.heap.size≤n8∧(i≤n6)∧(FH d3 n4 (J7 l.xs) i bd ati xs)∧(xs.length=i)∧(ati≤l.xs.length)∧St 38 [(MQ pc),(3,.slice aL xs.length cL),(4,Ae n6),(5,Ae i)] [] ⟨w,n8,[(old (fun b=>b=pc) w),(bk pc #[.slice l.a l.xs.length l.cap,Ae ati,.bool bd] 121),(V9 z aL xs cL)]⟩ a w') (n6 - 0) ?_ ?_
 ·intro a w' hs;exact⟨w5.heap.size,0,([]),n4,d3,none,0,rfl,Nat.le_refl _,Nat.zero_le _,Jc _ _ _,rfl,by omega,hs⟩
 rintro m a w' ⟨n8,i,xs,ati,bd,aL,cL,rfl,hn7,hki,hm,hxl,hal,hs⟩
 refine(?_:G Try.prog 38 [(MQ pc),(3,.slice aL xs.length cL),(4,Ae n6),(5,Ae i)] [] ⟨w,n8,[(old (fun b=>b=pc) w),(bk pc #[.slice l.a l.xs.length l.cap,Ae ati,.bool bd] 121),(V9 z aL xs cL)]⟩ _ _ _) a w' hs
 clear hs a w'
 refine Bi <| Bi ?_
 by_cases h9:(i:Int)<(n6:Int)
 ·cases bd
  ·refine Aw 10 1 [1] [[o0,o0,oT,o0,o0,o0,o0,(a1 1),o0,o0],[o0]] [BT ((i:Int)<(n6:Int)),Qb pc] [(MQ pc),(3,.slice aL xs.length cL),(4,Ae n6),(5,Ae i),(23,pt pc)] rfl ⟨bt,rfl,Ac⟩ ?_
   refine l_call [] [] 63 #[pt pc,i6 4] (some 24) Ac ?_
   intro w10 hw10
   refine(Dl (hw10.at (i:=1) rfl) (Bf (fun x _ _ hx hv=>BC hv hx.2 _ (hw10.at (i:=0) rfl)) (fun x hx=>⟨Nat.lt_of_lt_of_le hx.1 (by rw[hw10.size];show w.heap.size≤n8;omega),hx.2⟩) hl) hB hlen (by omega)).mono ?_
   rintro e w14 ⟨v11,d12,n13,rfl,hstw14,hrxw14,hlaw14,hCw14,hkw14⟩
   obtain⟨hnw14,hSw14⟩:=BR hw10 (i:=1) rfl hCw14 hkw14;have hnw14':n8≤w14.heap.size:=hnw14
   refine⟨_,_,rfl,hSw14, ?_⟩
   refine AC 4 1 [] [[o0],[o0]] [] [(MQ pc),(3,.slice aL xs.length cL),(4,Ae n6),(5,Ae i),(6,i6 v11),(25,pt pc)] rfl Ac ?_
   refine l_call [] [] 63 #[pt pc,i6 4] (some 26) Ac ?_
   intro w15 hw15
   refine(Dl (hw15.at (i:=1) rfl) (Bf (fun x _ _ hx hv=>BC hv hx.2 _ (hw15.at (i:=0) rfl)) (fun x hx=>⟨Nat.lt_of_lt_of_le hx.1 (by rw[hw15.size];show w.heap.size≤w14.heap.size;omega),hx.2⟩) hl) hB hlen (by omega)).mono ?_
   rintro e w19 ⟨v16,d17,n18,rfl,hstw19,hrxw19,hlaw19,hCw19,hkw19⟩
   obtain⟨hnw19,hSw19⟩:=BR hw15 (i:=1) rfl hCw19 hkw19;have hnw19':w14.heap.size≤w19.heap.size:=hnw19
   refine⟨_,_,rfl,hSw19, ?_⟩
   refine AC 4 1 [] [[o0],[o0]] [] [(MQ pc),(3,.slice aL xs.length cL),(4,Ae n6),(5,Ae i),(6,i6 v11),(7,i6 v16),(27,pt pc)] rfl Ac ?_
   refine l_call [] [] 63 #[pt pc,i6 4] (some 28) Ac ?_
   intro w20 hw20
   refine(Dl (hw20.at (i:=1) rfl) (Bf (fun x _ _ hx hv=>BC hv hx.2 _ (hw20.at (i:=0) rfl)) (fun x hx=>⟨Nat.lt_of_lt_of_le hx.1 (by rw[hw20.size];show w.heap.size≤w19.heap.size;omega),hx.2⟩) hl) hB hlen (by omega)).mono ?_
   rintro e w24 ⟨v21,d22,n23,rfl,hstw24,hrxw24,hlaw24,hCw24,hkw24⟩
   obtain⟨hnw24,hSw24⟩:=BR hw20 (i:=1) rfl hCw24 hkw24;have hnw24':w19.heap.size≤w24.heap.size:=hnw24
   refine⟨_,_,rfl,hSw24, ?_⟩
   refine Ey 3 7 [] [[o0],[o0,o0,(ov (i6 (v11 - 1))),o0,o0,o0,o0]] [Wr ((v11:Int) - 1) (v11 - 1)] [(MQ pc),(4,Ae n6),(5,Ae i),(29,.slice aL xs.length cL),(35,.slice (some ⟨w24.heap.size,0,none⟩) 1 1)] ⟨w,w24.heap.size+1,[(old (fun b=>b=pc) w),(bk pc #[.slice l.a l.xs.length l.cap,Ae n23,.bool d22] 121),(V9 z aL xs cL),(.blk w24.heap.size (.cells #[i6 (v11 - 1),i6 v16,i6 v21] 51 (0,0)) true)]⟩ rfl ⟨Bq,Ac⟩ ?_
   refine E8 z 2 3 xs [(⟨v11 - 1,v16,v21⟩:Af)] Af.cells 51 3 24 (.slice aL xs.length cL) w24.heap.size 1 1 #[i6 (v11 - 1),i6 v16,i6 v21] 51 (0,0) true (some 36) (by simp only[List.length_cons,List.length_nil];omega) (show z≤w24.heap.size+1 by omega) (fun ax25 cp26 n27 (hn28:w24.heap.size+1≤n27) => ?_)
   refine AC 5 0 [] [[o0],[o0,(ov (i6 ((i+1:Nat):Int))),o0]] [Wr ((i:Int)+1) (((i+1:Nat):Int))] [(MQ pc),(4,Ae n6),(5,i6 ((i+1:Nat):Int)),(3,.slice ax25 ((xs++[(⟨v11 - 1,v16,v21⟩:Af)]).length) cp26)] rfl ⟨Bq,Ac⟩ ?_
   refine CG [0,1,2] [(old (fun b=>b=pc) w),(bk pc #[.slice l.a l.xs.length l.cap,Ae n23,.bool d22] 121),(Au z 51 3 Af.cells (.slice ax25 ((xs++[(⟨v11 - 1,v16,v21⟩:Af)]).length) cp26) (xs++[(⟨v11 - 1,v16,v21⟩:Af)]))] rfl rfl ?_
   refine Ce [0,3,4,5] [(MQ pc),(3,.slice ax25 ((xs++[(⟨v11 - 1,v16,v21⟩:Af)]).length) cp26),(4,Ae n6),(5,i6 ((i+1:Nat):Int))] ?_
   refine BB (fun a w' hs=>⟨n6 - (i+1),by omega,n27,(i+1),(xs++[(⟨v11 - 1,v16,v21⟩:Af)]),n23,d22,ax25,cp26,rfl,by omega,by omega,hm.more (by unfold J7;exact hstw14.bind (hstw19.bind (hstw24.map))),by rw[List.length_append,hxl];rfl,by omega,hs⟩)
  refine Aw 14 0 [0] [[o0,o0,oT,o0,o0,o0,o0,(a1 1),o0,o0],[o0,o0]] [BT ((i:Int)<(n6:Int)),Qb pc] [(2,.slice aL xs.length cL)] rfl ⟨bt,rfl,Ac⟩ ?_
  refine AU [] [] (.slice aL xs.length cL) Ac ?_
  intro w29 hw29
  have hrow:=hw29.at (i:=2) (c:=(V9 z aL xs cL)) rfl
  exact⟨xs,_,ati,_,_,rfl,hm.done hstw5 (.inr ⟨rfl,by omega⟩),by omega,hal,hw29.at (i:=1) rfl,A7 hw29,hz ▸ hrow⟩
 refine Aw 14 0 [0] [[o0,o0,oF,o0,o0],[o0,o0]] [BF ((i:Int)<(n6:Int))] [(2,.slice aL xs.length cL)] rfl ⟨bf,Ac⟩ ?_
 refine AU [] [] (.slice aL xs.length cL) Ac ?_
 intro w30 hw30
 have hrow:=hw30.at (i:=2) (c:=(V9 z aL xs cL)) rfl
 exact⟨xs,_,ati,_,_,rfl,hm.done hstw5 (.inl (by omega)),by omega,hal,hw30.at (i:=1) rfl,A7 hw30,hz ▸ hrow⟩
section
variable (z:Nat)(aL:Option Addr)(xs:List Ak)(cL pc:Nat)
abbrev Vb:=Au z 53 4 Ak.cells (.slice aL xs.length cL) xs
abbrev LX:=(0,pt pc)
end
theorem cregs(w:World)(pc:Nat)(l:Sl Int)(at0:Nat)(bad:Bool)(hc:FO w pc l at0 bad)(hl:BD Bh 1 (fun x=>x<w.heap.size∧¬ x=pc) w l)(hB:Ef l.xs)(hlen:l.xs.length≤16384)(hat:at0≤l.xs.length):Calls Try.prog 92 #[.pointer (some ⟨pc,0,none⟩)] w fun e w'=>Z4 w pc l at0 bad (EZ l.xs (KR l.xs) at0) 53 4 Ak.cells e w':=by
 obtain⟨z,hz⟩:∃ z,z=w.heap.size:=⟨_,rfl⟩
 refine Bc (args:=[pt pc]) 41 ⟨w,z,[(old (fun b=>b=pc) w),(bk pc #[.slice l.a l.xs.length l.cap,Ae at0,.bool bad] 121)]⟩ Try.func92 rfl (by kernel_rfl) (by kernel_rfl) (hz ▸ JC hc) ?_
 refine Bj [0] [(LX pc)] ?_
 refine Aw 10 1 [] [[o0],[o0],[o0]] [] [(LX pc),(3,.slice none 0 0),(10,pt pc)] rfl Ac ?_
 refine l_call [] [] 63 #[pt pc,i6 1] (some 11) Ac ?_
 intro w1 hw1
 refine(Ip (hw1.at (i:=1) rfl) (Bf (fun x _ _ hx hv=>BC hv hx.2 _ (hw1.at (i:=0) rfl)) (fun x hx=>⟨Nat.lt_of_lt_of_le hx.1 (by rw[hw1.size];show w.heap.size≤z;omega),hx.2⟩) hl) hB hlen (by omega)).mono ?_
 rintro e w5 ⟨v2,d3,n4,rfl,hstw5,hrxw5,hlaw5,hCw5,hkw5⟩
 obtain⟨n6,rfl⟩:∃ n:Nat,v2=(n:Int):=⟨_,(Int.toNat_of_nonneg hrxw5.1.1).symm⟩
 obtain⟨hnw5,hSw5⟩:=BR hw1 (i:=1) rfl hCw5 hkw5;have hnw5':z≤w5.heap.size:=hnw5
 refine⟨_,_,rfl,hSw5, ?_⟩
 refine AC 8 0 [] [[o0],[o0]] [] [(LX pc),(3,.slice none 0 0),(4,Ae n6),(5,i6 0)] rfl Ac ?_
 refine FW z 53 4 Ak.cells ?_
 refine Bl (fun m a w'=>∃ (n8:Nat) (i:Nat) (xs:List Ak) (ati:Nat) (bd:Bool) (aL:Option Addr) (cL:Nat),m=n6 - i∧w5.heap.size≤n8∧(i≤n6)∧(FH d3 n4 (KR l.xs) i bd ati xs)∧(xs.length=i)∧(ati≤l.xs.length)∧St 41 [(LX pc),(3,.slice aL xs.length cL),(4,Ae n6),(5,Ae i)] [] ⟨w,n8,[(old (fun b=>b=pc) w),(bk pc #[.slice l.a l.xs.length l.cap,Ae ati,.bool bd] 121),(Vb z aL xs cL)]⟩ a w') (n6 - 0) ?_ ?_
 ·intro a w' hs;exact⟨w5.heap.size,0,([]),n4,d3,none,0,rfl,Nat.le_refl _,Nat.zero_le _,Jc _ _ _,rfl,by omega,hs⟩
 rintro m a w' ⟨n8,i,xs,ati,bd,aL,cL,rfl,hn7,hki,hm,hxl,hal,hs⟩
 refine(?_:G Try.prog 41 [(LX pc),(3,.slice aL xs.length cL),(4,Ae n6),(5,Ae i)] [] ⟨w,n8,[(old (fun b=>b=pc) w),(bk pc #[.slice l.a l.xs.length l.cap,Ae ati,.bool bd] 121),(Vb z aL xs cL)]⟩ _ _ _) a w' hs
 clear hs a w'
 refine Bi <| Bi ?_
 by_cases h9:(i:Int)<(n6:Int)
 ·cases bd
  ·refine Aw 10 1 [1] [[o0,o0,oT,o0,o0,o0,o0,(a1 1),o0,o0],[o0]] [BT ((i:Int)<(n6:Int)),Qb pc] [(LX pc),(3,.slice aL xs.length cL),(4,Ae n6),(5,Ae i),(24,pt pc)] rfl ⟨bt,rfl,Ac⟩ ?_
   refine l_call [] [] 63 #[pt pc,i6 4] (some 25) Ac ?_
   intro w10 hw10
   refine(Dl (hw10.at (i:=1) rfl) (Bf (fun x _ _ hx hv=>BC hv hx.2 _ (hw10.at (i:=0) rfl)) (fun x hx=>⟨Nat.lt_of_lt_of_le hx.1 (by rw[hw10.size];show w.heap.size≤n8;omega),hx.2⟩) hl) hB hlen (by omega)).mono ?_
   rintro e w14 ⟨v11,d12,n13,rfl,hstw14,hrxw14,hlaw14,hCw14,hkw14⟩
   obtain⟨hnw14,hSw14⟩:=BR hw10 (i:=1) rfl hCw14 hkw14;have hnw14':n8≤w14.heap.size:=hnw14
   refine⟨_,_,rfl,hSw14, ?_⟩
   refine AC 4 1 [] [[o0],[o0]] [] [(LX pc),(3,.slice aL xs.length cL),(4,Ae n6),(5,Ae i),(6,i6 v11),(26,pt pc)] rfl Ac ?_
   refine l_call [] [] 63 #[pt pc,i6 4] (some 27) Ac ?_
   intro w15 hw15
   refine(Dl (hw15.at (i:=1) rfl) (Bf (fun x _ _ hx hv=>BC hv hx.2 _ (hw15.at (i:=0) rfl)) (fun x hx=>⟨Nat.lt_of_lt_of_le hx.1 (by rw[hw15.size];show w.heap.size≤w14.heap.size;omega),hx.2⟩) hl) hB hlen (by omega)).mono ?_
   rintro e w19 ⟨v16,d17,n18,rfl,hstw19,hrxw19,hlaw19,hCw19,hkw19⟩
   obtain⟨hnw19,hSw19⟩:=BR hw15 (i:=1) rfl hCw19 hkw19;have hnw19':w14.heap.size≤w19.heap.size:=hnw19
   refine⟨_,_,rfl,hSw19, ?_⟩
   refine AC 4 1 [] [[o0],[o0]] [] [(LX pc),(3,.slice aL xs.length cL),(4,Ae n6),(5,Ae i),(6,i6 v11),(7,i6 v16),(28,pt pc)] rfl Ac ?_
   refine l_call [] [] 63 #[pt pc,i6 4] (some 29) Ac ?_
   intro w20 hw20
   refine(Dl (hw20.at (i:=1) rfl) (Bf (fun x _ _ hx hv=>BC hv hx.2 _ (hw20.at (i:=0) rfl)) (fun x hx=>⟨Nat.lt_of_lt_of_le hx.1 (by rw[hw20.size];show w.heap.size≤w19.heap.size;omega),hx.2⟩) hl) hB hlen (by omega)).mono ?_
   rintro e w24 ⟨v21,d22,n23,rfl,hstw24,hrxw24,hlaw24,hCw24,hkw24⟩
   obtain⟨hnw24,hSw24⟩:=BR hw20 (i:=1) rfl hCw24 hkw24;have hnw24':w19.heap.size≤w24.heap.size:=hnw24
   refine⟨_,_,rfl,hSw24, ?_⟩
   refine AC 4 1 [] [[o0],[o0]] [] [(LX pc),(3,.slice aL xs.length cL),(4,Ae n6),(5,Ae i),(6,i6 v11),(7,i6 v16),(8,i6 v21),(30,pt pc)] rfl Ac ?_
   refine l_call [] [] 63 #[pt pc,i6 4] (some 31) Ac ?_
   intro w25 hw25
   refine(Dl (hw25.at (i:=1) rfl) (Bf (fun x _ _ hx hv=>BC hv hx.2 _ (hw25.at (i:=0) rfl)) (fun x hx=>⟨Nat.lt_of_lt_of_le hx.1 (by rw[hw25.size];show w.heap.size≤w24.heap.size;omega),hx.2⟩) hl) hB hlen (by omega)).mono ?_
   rintro e w29 ⟨v26,d27,n28,rfl,hstw29,hrxw29,hlaw29,hCw29,hkw29⟩
   obtain⟨hnw29,hSw29⟩:=BR hw25 (i:=1) rfl hCw29 hkw29;have hnw29':w24.heap.size≤w29.heap.size:=hnw29
   refine⟨_,_,rfl,hSw29, ?_⟩
   refine Ey 3 7 [] [[o0],[o0,o0,o0,o0,o0,o0,o0]] [] [(LX pc),(4,Ae n6),(5,Ae i),(32,.slice aL xs.length cL),(38,.slice (some ⟨w29.heap.size,0,none⟩) 1 1)] ⟨w,w29.heap.size+1,[(old (fun b=>b=pc) w),(bk pc #[.slice l.a l.xs.length l.cap,Ae n28,.bool d27] 121),(Vb z aL xs cL),(.blk w29.heap.size (.cells #[i6 v11,i6 v16,i6 v21,i6 v26] 53 (0,0)) true)]⟩ rfl Ac ?_
   refine E8 z 2 3 xs [(⟨v11,v16,v21,v26⟩:Ak)] Ak.cells 53 4 32 (.slice aL xs.length cL) w29.heap.size 1 1 #[i6 v11,i6 v16,i6 v21,i6 v26] 53 (0,0) true (some 39) (by simp only[List.length_cons,List.length_nil];omega) (show z≤w29.heap.size+1 by omega) (fun ax30 cp31 n32 (hn33:w29.heap.size+1≤n32) => ?_)
   refine AC 5 0 [] [[o0],[o0,(ov (i6 ((i+1:Nat):Int))),o0]] [Wr ((i:Int)+1) (((i+1:Nat):Int))] [(LX pc),(4,Ae n6),(5,i6 ((i+1:Nat):Int)),(3,.slice ax30 ((xs++[(⟨v11,v16,v21,v26⟩:Ak)]).length) cp31)] rfl ⟨Bq,Ac⟩ ?_
   refine CG [0,1,2] [(old (fun b=>b=pc) w),(bk pc #[.slice l.a l.xs.length l.cap,Ae n28,.bool d27] 121),(Au z 53 4 Ak.cells (.slice ax30 ((xs++[(⟨v11,v16,v21,v26⟩:Ak)]).length) cp31) (xs++[(⟨v11,v16,v21,v26⟩:Ak)]))] rfl rfl ?_
   refine Ce [0,3,4,5] [(LX pc),(3,.slice ax30 ((xs++[(⟨v11,v16,v21,v26⟩:Ak)]).length) cp31),(4,Ae n6),(5,i6 ((i+1:Nat):Int))] ?_
   refine BB (fun a w' hs=>⟨n6 - (i+1),by omega,n32,(i+1),(xs++[(⟨v11,v16,v21,v26⟩:Ak)]),n28,d27,ax30,cp31,rfl,by omega,by omega,hm.more (by unfold KR;exact hstw14.bind (hstw19.bind (hstw24.bind (hstw29.map)))),by rw[List.length_append,hxl];rfl,by omega,hs⟩)
  refine Aw 14 0 [0] [[o0,o0,oT,o0,o0,o0,o0,(a1 1),o0,o0],[o0,o0]] [BT ((i:Int)<(n6:Int)),Qb pc] [(2,.slice aL xs.length cL)] rfl ⟨bt,rfl,Ac⟩ ?_
  refine AU [] [] (.slice aL xs.length cL) Ac ?_
  intro w34 hw34
  have hrow:=hw34.at (i:=2) (c:=(Vb z aL xs cL)) rfl
  exact⟨xs,_,ati,_,_,rfl,hm.done hstw5 (.inr ⟨rfl,by omega⟩),by omega,hal,hw34.at (i:=1) rfl,A7 hw34,hz ▸ hrow⟩
 refine Aw 14 0 [0] [[o0,o0,oF,o0,o0],[o0,o0]] [BF ((i:Int)<(n6:Int))] [(2,.slice aL xs.length cL)] rfl ⟨bf,Ac⟩ ?_
 refine AU [] [] (.slice aL xs.length cL) Ac ?_
 intro w35 hw35
 have hrow:=hw35.at (i:=2) (c:=(Vb z aL xs cL)) rfl
 exact⟨xs,_,ati,_,_,rfl,hm.done hstw5 (.inl (by omega)),by omega,hal,hw35.at (i:=1) rfl,A7 hw35,hz ▸ hrow⟩
section
variable (z:Nat)(aL:Option Addr)(xs:List Ap)(cL pc:Nat)
abbrev Vf:=Au z 55 2 Ap.cells (.slice aL xs.length cL) xs
abbrev Oh:=(0,pt pc)
end
theorem cports(w:World)(pc:Nat)(l:Sl Int)(at0:Nat)(bad:Bool)(hc:FO w pc l at0 bad)(hl:BD Bh 1 (fun x=>x<w.heap.size∧¬ x=pc) w l)(hB:Ef l.xs)(hlen:l.xs.length≤16384)(hat:at0≤l.xs.length):Calls Try.prog 93 #[.pointer (some ⟨pc,0,none⟩)] w fun e w'=>Z4 w pc l at0 bad (EZ l.xs (KL l.xs) at0) 55 2 Ap.cells e w':=by
 obtain⟨z,hz⟩:∃ z,z=w.heap.size:=⟨_,rfl⟩
 refine Bc (args:=[pt pc]) 33 ⟨w,z,[(old (fun b=>b=pc) w),(bk pc #[.slice l.a l.xs.length l.cap,Ae at0,.bool bad] 121)]⟩ Try.func93 rfl (by kernel_rfl) (by kernel_rfl) (hz ▸ JC hc) ?_
 refine Bj [0] [(Oh pc)] ?_
 refine Aw 10 1 [] [[o0],[o0],[o0]] [] [(Oh pc),(3,.slice none 0 0),(8,pt pc)] rfl Ac ?_
 refine l_call [] [] 63 #[pt pc,i6 1] (some 9) Ac ?_
 intro w1 hw1
 refine(Ip (hw1.at (i:=1) rfl) (Bf (fun x _ _ hx hv=>BC hv hx.2 _ (hw1.at (i:=0) rfl)) (fun x hx=>⟨Nat.lt_of_lt_of_le hx.1 (by rw[hw1.size];show w.heap.size≤z;omega),hx.2⟩) hl) hB hlen (by omega)).mono ?_
 rintro e w5 ⟨v2,d3,n4,rfl,hstw5,hrxw5,hlaw5,hCw5,hkw5⟩
 obtain⟨n6,rfl⟩:∃ n:Nat,v2=(n:Int):=⟨_,(Int.toNat_of_nonneg hrxw5.1.1).symm⟩
 obtain⟨hnw5,hSw5⟩:=BR hw1 (i:=1) rfl hCw5 hkw5;have hnw5':z≤w5.heap.size:=hnw5
 refine⟨_,_,rfl,hSw5, ?_⟩
 refine AC 8 0 [] [[o0],[o0]] [] [(Oh pc),(3,.slice none 0 0),(4,Ae n6),(5,i6 0)] rfl Ac ?_
 refine FW z 55 2 Ap.cells ?_
 refine Bl (fun m a w'=>∃ (n8:Nat) (i:Nat) (xs:List Ap) (ati:Nat) (bd:Bool) (aL:Option Addr) (cL:Nat),m=n6 - i∧w5.heap.size≤n8∧(i≤n6)∧(FH d3 n4 (KL l.xs) i bd ati xs)∧(xs.length=i)∧(ati≤l.xs.length)∧St 33 [(Oh pc),(3,.slice aL xs.length cL),(4,Ae n6),(5,Ae i)] [] ⟨w,n8,[(old (fun b=>b=pc) w),(bk pc #[.slice l.a l.xs.length l.cap,Ae ati,.bool bd] 121),(Vf z aL xs cL)]⟩ a w') (n6 - 0) ?_ ?_
 ·intro a w' hs;exact⟨w5.heap.size,0,([]),n4,d3,none,0,rfl,Nat.le_refl _,Nat.zero_le _,Jc _ _ _,rfl,by omega,hs⟩
 rintro m a w' ⟨n8,i,xs,ati,bd,aL,cL,rfl,hn7,hki,hm,hxl,hal,hs⟩
 refine(?_:G Try.prog 33 [(Oh pc),(3,.slice aL xs.length cL),(4,Ae n6),(5,Ae i)] [] ⟨w,n8,[(old (fun b=>b=pc) w),(bk pc #[.slice l.a l.xs.length l.cap,Ae ati,.bool bd] 121),(Vf z aL xs cL)]⟩ _ _ _) a w' hs
 clear hs a w'
 refine Bi <| Bi ?_
 by_cases h9:(i:Int)<(n6:Int)
 ·cases bd
  ·refine Aw 10 1 [1] [[o0,o0,oT,o0,o0,o0,o0,(a1 1),o0,o0],[o0]] [BT ((i:Int)<(n6:Int)),Qb pc] [(Oh pc),(3,.slice aL xs.length cL),(4,Ae n6),(5,Ae i),(22,pt pc)] rfl ⟨bt,rfl,Ac⟩ ?_
   refine l_call [] [] 63 #[pt pc,i6 4] (some 23) Ac ?_
   intro w10 hw10
   refine(Dl (hw10.at (i:=1) rfl) (Bf (fun x _ _ hx hv=>BC hv hx.2 _ (hw10.at (i:=0) rfl)) (fun x hx=>⟨Nat.lt_of_lt_of_le hx.1 (by rw[hw10.size];show w.heap.size≤n8;omega),hx.2⟩) hl) hB hlen (by omega)).mono ?_
   rintro e w14 ⟨v11,d12,n13,rfl,hstw14,hrxw14,hlaw14,hCw14,hkw14⟩
   obtain⟨hnw14,hSw14⟩:=BR hw10 (i:=1) rfl hCw14 hkw14;have hnw14':n8≤w14.heap.size:=hnw14
   refine⟨_,_,rfl,hSw14, ?_⟩
   refine AC 4 1 [] [[o0],[o0]] [] [(Oh pc),(3,.slice aL xs.length cL),(4,Ae n6),(5,Ae i),(6,i6 v11),(24,pt pc)] rfl Ac ?_
   refine l_call [] [] 98 #[pt pc] (some 25) Ac ?_
   intro w15 hw15
   refine(ssrc_calls (hw15.at (i:=1) rfl) (Bf (fun x _ _ hx hv=>BC hv hx.2 _ (hw15.at (i:=0) rfl)) (fun x hx=>⟨Nat.lt_of_lt_of_le hx.1 (by rw[hw15.size];show w.heap.size≤w14.heap.size;omega),hx.2⟩) hl) hB hlen (by omega)).mono ?_
   rintro e w19 ⟨u16,d17,n18,rfl,hstw19,hrxw19,hlaw19,hCw19,hkw19⟩
   obtain⟨hnw19,hSw19⟩:=BR hw15 (i:=1) rfl hCw19 hkw19;have hnw19':w14.heap.size≤w19.heap.size:=hnw19
   refine⟨_,_,rfl,hSw19, ?_⟩
   refine Ey 3 5 [] [[o0],[o0,o0,o0,o0,o0]] [] [(Oh pc),(4,Ae n6),(5,Ae i),(26,.slice aL xs.length cL),(30,.slice (some ⟨w19.heap.size,0,none⟩) 1 1)] ⟨w,w19.heap.size+1,[(old (fun b=>b=pc) w),(bk pc #[.slice l.a l.xs.length l.cap,Ae n18,.bool d17] 121),(Vf z aL xs cL),(.blk w19.heap.size (.cells #[i6 v11,.bool u16] 55 (0,0)) true)]⟩ rfl Ac ?_
   refine E8 z 2 3 xs [(⟨v11,u16⟩:Ap)] Ap.cells 55 2 16 (.slice aL xs.length cL) w19.heap.size 1 1 #[i6 v11,.bool u16] 55 (0,0) true (some 31) (by simp only[List.length_cons,List.length_nil];omega) (show z≤w19.heap.size+1 by omega) (fun ax20 cp21 n22 (hn23:w19.heap.size+1≤n22) => ?_)
   refine AC 5 0 [] [[o0],[o0,(ov (i6 ((i+1:Nat):Int))),o0]] [Wr ((i:Int)+1) (((i+1:Nat):Int))] [(Oh pc),(4,Ae n6),(5,i6 ((i+1:Nat):Int)),(3,.slice ax20 ((xs++[(⟨v11,u16⟩:Ap)]).length) cp21)] rfl ⟨Bq,Ac⟩ ?_
   refine CG [0,1,2] [(old (fun b=>b=pc) w),(bk pc #[.slice l.a l.xs.length l.cap,Ae n18,.bool d17] 121),(Au z 55 2 Ap.cells (.slice ax20 ((xs++[(⟨v11,u16⟩:Ap)]).length) cp21) (xs++[(⟨v11,u16⟩:Ap)]))] rfl rfl ?_
   refine Ce [0,3,4,5] [(Oh pc),(3,.slice ax20 ((xs++[(⟨v11,u16⟩:Ap)]).length) cp21),(4,Ae n6),(5,i6 ((i+1:Nat):Int))] ?_
   refine BB (fun a w' hs=>⟨n6 - (i+1),by omega,n22,(i+1),(xs++[(⟨v11,u16⟩:Ap)]),n18,d17,ax20,cp21,rfl,by omega,by omega,hm.more (by unfold KL;exact hstw14.bind (hstw19.map)),by rw[List.length_append,hxl];rfl,by omega,hs⟩)
  refine Aw 14 0 [0] [[o0,o0,oT,o0,o0,o0,o0,(a1 1),o0,o0],[o0,o0]] [BT ((i:Int)<(n6:Int)),Qb pc] [(2,.slice aL xs.length cL)] rfl ⟨bt,rfl,Ac⟩ ?_
  refine AU [] [] (.slice aL xs.length cL) Ac ?_
  intro w24 hw24
  have hrow:=hw24.at (i:=2) (c:=(Vf z aL xs cL)) rfl
  exact⟨xs,_,ati,_,_,rfl,hm.done hstw5 (.inr ⟨rfl,by omega⟩),by omega,hal,hw24.at (i:=1) rfl,A7 hw24,hz ▸ hrow⟩
 refine Aw 14 0 [0] [[o0,o0,oF,o0,o0],[o0,o0]] [BF ((i:Int)<(n6:Int))] [(2,.slice aL xs.length cL)] rfl ⟨bf,Ac⟩ ?_
 refine AU [] [] (.slice aL xs.length cL) Ac ?_
 intro w25 hw25
 have hrow:=hw25.at (i:=2) (c:=(Vf z aL xs cL)) rfl
 exact⟨xs,_,ati,_,_,rfl,hm.done hstw5 (.inl (by omega)),by omega,hal,hw25.at (i:=1) rfl,A7 hw25,hz ▸ hrow⟩
def Sz(f:Nat→Ch):Prop:=(∀ z z',(f z).key=(f z').key)∧(∀ z z' w,z≤z'→(f z').holds w→(f z).holds w)∧(∀ z,(f z).stable)∧∀ z w b,(f z).holds w→(f z).F b→z≤b
theorem Uj{α:Type}(e:TypeId)(sz:Nat)(cells:α→List Value)(v:Value)(xs:List α):Sz (fun z=>Au z e sz cells v xs) :=
 ⟨fun _ _=>rfl,fun _ _ _ hz h=>Wu h hz,fun _=>D9 _ _ _ _ _ _,fun _ _ b h hb=>MI h b hb⟩
theorem Y3{α:Type}(e:TypeId)(sz:Nat)(cells:α→List Value)(hs:List (Sl α)):Sz (fun z=>Aq z e sz cells hs) :=
 ⟨fun _ _=>rfl,fun _ _ _ hz h=>fam_low h hz,fun _=>QD _ _ _ _ _,fun _ _ b h hb=>Ou h b hb⟩
def Made(w w':World)(fs:List (Nat→Ch)):Prop:=(∀ z,z≤w.heap.size→Sat ⟨w,w'.heap.size,fs.map (· z)⟩ w')∧∀ z,∀ d∈fs.map (· z),∀ b,d.F b→w.heap.size≤b
theorem IR{w w':World}{fs:List (Nat→Ch)}(hL:∀ f∈fs,Sz f)(h:Sat ⟨w,w'.heap.size,fs.map (· w.heap.size)⟩ w'):Made w w' fs:=by
 refine⟨fun z hz => ?_,fun z d hd b hb => ?_⟩
 ·refine h.low (fs.map (· z)) ?_ ?_
  ·rw[List.map_map,List.map_map]
   exact List.map_congr_left (fun f hf=>(hL f hf).1 _ _)
  intro c hc
  obtain⟨f,hf,rfl⟩:=List.mem_map.1 hc
  exact⟨(hL f hf).2.1 _ _ _ hz (h.all _ (List.mem_map_of_mem hf)),(hL f hf).2.2.1 _⟩
 obtain⟨f,hf,rfl⟩:=List.mem_map.1 hd
 have hkey:(f z).F=(f w.heap.size).F:=congrArg Prod.fst ((hL f hf).1 z w.heap.size)
 have hb':(f z).F b:=hb
 rw[hkey]at hb'
 exact(hL f hf).2.2.2 w.heap.size w' b (h.all _ (List.mem_map_of_mem hf)) hb'
theorem VL{A:AW}{w w':World}{i pr:Nat}{F:Nat→Prop}{b:List Int}{at0 at':Nat}{fl0 fl:Int}{fs:List (Nat→Ch)}(h:Sat A w)(hi:A.σ[i]? = some (Bo pr F b at0 fl0))(hR:BQ w' pr F b at' fl)(hk:AV F w w')(hM:Made w w' fs)(z:Nat)(hz:z≤A.n):A.n≤w'.heap.size∧Sat { A with n:=w'.heap.size,σ:=A.σ.set i (Bo pr F b at' fl)++fs.map (· z) } w' :=
 ⟨AB h hk,h.UF hi rfl rfl hk hR (Qk _ _ _ _ _) (fun _ h=>h) (hM.1 z (by rw[h.size];exact hz)) (hM.2 z)⟩
def Zw{α β:Type}(w:World)(pr:Nat)(F:Nat→Prop)(b:List Int)(r:PR β)(pl:α→β)(val:α→Value)(fs:α→List (Nat→Ch))(e:Ending)(w':World):Prop :=
 (∃ x a,r = .ok (pl x) a∧e = .returned (val x)∧BQ w' pr F b a 0∧AV F w w'∧Made w w' (fs x))∨(∃ p,r = .no p∧e = .panicked (Ug 110 p)∧AV F w w')
def Ub(x:Sl (Sl Af)):List (Nat→Ch):=[fun z=>Au z 43 1 (fun x:Sl Af=>[Sl.val x]) (.slice x.a x.xs.length x.cap) x.xs,fun z=>Aq z 51 3 Af.cells x.xs]
theorem Zaj(x:Sl (Sl Af)):∀ f∈Ub x,Sz f:=by
 simp only[Ub,List.mem_cons,List.not_mem_nil,or_false,forall_eq_or_imp,forall_eq]
 exact⟨Uj _ _ _ _ _,Y3 _ _ _ _⟩
structure Wy where
 Name:ByteArray
 Entry:Int
 AP:Int
 AA:Int
 AQ:Int
 AL:Int
 Ad:List Ak
 Ai:List Ap
def Ja(x:Ag):Wy:=⟨x.Name,x.Entry,x.AP,x.AA,x.AQ,x.AL,x.Ad.xs,x.Ai.xs⟩
def partAt(b:List Int)(a:Nat):PR Wy:=(Px b a).bind fun nm a=>(numAt b a).bind fun n1 a=>(numAt b a).bind fun n2 a=>(numAt b a).bind fun n3 a=>(numAt b a).bind fun n4 a=>(numAt b a).bind fun n5 a=>(EZ b (KR b) a).bind fun rs a=>(EZ b (KL b) a).bind fun ps a=> .ok ⟨nm,n1,n2,n3,n4,n5,rs,ps⟩ a
def Tv(x:Ag):List (Nat→Ch):=[fun z=>Au z 53 4 Ak.cells (.slice x.Ad.a x.Ad.xs.length x.Ad.cap) x.Ad.xs,fun z=>Au z 55 2 Ap.cells (.slice x.Ai.a x.Ai.xs.length x.Ai.cap) x.Ai.xs]
theorem Zae(x:Ag):∀ f∈Tv x,Sz f:=by
 simp only[Tv,List.mem_cons,List.not_mem_nil,or_false,forall_eq_or_imp,forall_eq]
 exact⟨Uj _ _ _ _ _,Uj _ _ _ _ _⟩
def QO(x:Sl Ag):List (Nat→Ch):=[fun z=>Au z 47 8 Ag.cells (.slice x.a x.xs.length x.cap) x.xs,fun z=>Aq z 53 4 Ak.cells (x.xs.map Ag.Ad),fun z=>Aq z 55 2 Ap.cells (x.xs.map Ag.Ai)]
theorem YJ(x:Sl Ag):∀ f∈QO x,Sz f:=by
 simp only[QO,List.mem_cons,List.not_mem_nil,or_false,forall_eq_or_imp,forall_eq]
 exact⟨Uj _ _ _ _ _,Y3 _ _ _ _,Y3 _ _ _ _⟩
structure G9 where
 Frames:Int
 AX:Int
 Kernel:Int
 Room:Int
 Aj:List (List Af)
 Aa:List Wy
 Ah:List Ar
def Hz(c:Am):G9:=⟨c.Frames,c.AX,c.Kernel,c.Room,c.Aj.xs.map Sl.xs,c.Aa.xs.map Ja,c.Ah.xs⟩
def LW(b:List Int)(a:Nat):PR Unit:=if a+4≤b.length∧Az b a 4=826493762 then .ok () (a+4)else .no a
theorem ES{b:List Int}{a:Nat}(h:a+4≤b.length∧Az b a 4=826493762):LW b a = .ok () (a+4):=if_pos h
theorem Va{b:List Int}{a:Nat}(h:¬ (a+4≤b.length∧Az b a 4=826493762)):LW b a = .no a:=if_neg h
def Eg(b:List Int)(a:Nat):PR G9:=(numAt b a).bind fun n1 a=>(numAt b a).bind fun n2 a=>(numAt b a).bind fun n3 a=>(numAt b a).bind fun n4 a=>(EZ b (EZ b (J7 b)) a).bind fun cs a=>(EZ b (partAt b) a).bind fun ps a=>(EZ b (H9 b) a).bind fun hs a=> .ok ⟨n1,n2,n3,n4,cs,ps,hs⟩ a
def HY(c:Am):List (Nat→Ch):=Ub c.Aj++QO c.Aa++[fun z=>Au z 57 3 Ar.cells (.slice c.Ah.a c.Ah.xs.length c.Ah.cap) c.Ah.xs]
theorem JW(c:Am):∀ f∈HY c,Sz f:=by
 intro f hf
 rcases List.mem_append.1 hf with hf | hf
 ·rcases List.mem_append.1 hf with hf | hf
  ·exact Zaj _ f hf
  exact YJ _ f hf
 rw[List.mem_singleton.1 hf];exact Uj _ _ _ _ _
theorem LH{α β:Type}{g:α→β}{xs:List α}{x:α}:(xs++[x]).map g=xs.map g++[g x]:=by rw[List.map_append];rfl
section
variable (z pr:Nat)(aL:Option Addr)(xs:List (Sl Af))(cL:Nat)
abbrev Tz:=bk z #[pt pr] 117
abbrev Yf:=Au z 43 1 (fun x:Sl Af=>[Sl.val x]) (.slice aL xs.length cL) xs
end
theorem takeWs(w:World)(pr:Nat)(F:Nat→Prop)(b:List Int)(at0:Nat)(hr:BQ w pr F b at0 0):Calls Try.prog 68 #[.agg #[.pointer (some ⟨pr,0,none⟩)],.func (.func 69) #[] #[]] w fun e w'=>Zw w pr F b (EZ b (EZ b (J7 b)) at0) (fun x=>x.xs.map Sl.xs) (fun x=> .slice x.a x.xs.length x.cap) Ub e w':=by
 obtain⟨z,hz⟩:∃ z,z=w.heap.size:=⟨_,rfl⟩
 refine Bc (args:=[.agg #[pt pr],.func (.func 69) #[] #[]]) 20 ⟨w,z,[(old F w),(Bo pr F b at0 0)]⟩ Try.func68 rfl (by kernel_rfl) (by kernel_rfl) (hz ▸ FZ hr) ?_
 have hB:=hr.Nh;have hlen:=hr.len;have hat:=hr.le
 refine Bj [0,1] [(0,.agg #[pt pr]),(1,.func (.func 69) #[] #[])] ?_
 refine q_c 6 1 [] [[o0,o0],[(a1 2)]] [Qb z] [(1,.func (.func 69) #[] #[]),(2,pt z),(7,.agg #[pt pr])] ⟨w,z+1,[(old F w),(Bo pr F b at0 0),(Tz z pr)]⟩ rfl ⟨rfl,Ac⟩ ?_
 refine CJ [] [] 81 #[.agg #[pt pr]] (some 8) Ac ?_
 intro w1 hw1
 have hlew1:=BQ.le (hw1.at (i:=1) (c:=(Bo pr F b at0 0)) rfl)
 refine(TJ w1 pr F b at0 (hw1.at (i:=1) rfl)).mono ?_
 rintro e w2 (⟨hqw2,rfl,hRw2,hkw2⟩ | ⟨hqw2,rfl,hkw2⟩)
 ·have hvbw2:=GZ hB at0
  obtain⟨n3,hnn3⟩:∃ n:Nat,(gd b at0)=(n:Int):=⟨_,(Int.toNat_of_nonneg hvbw2.1).symm⟩;rw[hnn3]
  obtain⟨hnw2,hSw2⟩:=CB hw1 (i:=1) rfl hRw2 hkw2
  have hnw2':z+1≤w2.heap.size:=hnw2
  refine .inl ⟨_,_,rfl,hSw2, ?_⟩
  refine AC 12 0 [] [[o0],[o0],[o0,o0]] [] [(1,.func (.func 69) #[] #[]),(2,pt z),(6,.slice none 0 0),(9,Ae n3),(10,i6 0)] rfl Ac ?_
  refine JU z 51 3 Af.cells ?_
  refine FW z 43 1 (fun x:Sl Af=>[Sl.val x]) ?_
  refine Bl (fun m a w'=>∃ (n5:Nat) (i:Nat) (xs:List (Sl Af)) (ati:Nat) (aL:Option Addr) (cL:Nat),m=n3 - i∧w2.heap.size≤n5∧(i≤n3)∧(many (EZ b (J7 b)) i (at0+1) = .ok (xs.map Sl.xs) ati)∧St 20 [(1,.func (.func 69) #[] #[]),(2,pt z),(6,.slice aL xs.length cL),(9,Ae n3),(10,Ae i)] [] ⟨w,n5,[(old F w),(Bo pr F b ati 0),(Tz z pr),(Aq z 51 3 Af.cells xs),(Yf z aL xs cL)]⟩ a w') (n3 - 0) ?_ ?_
  ·intro a w' hs;exact⟨w2.heap.size,0,([]),(at0+1),none,0,rfl,Nat.le_refl _,Nat.zero_le _,rfl,hs⟩
  rintro m a w' ⟨n5,i,xs,ati,aL,cL,rfl,hn4,hki,hm,hs⟩
  refine(?_:G Try.prog 20 [(1,.func (.func 69) #[] #[]),(2,pt z),(6,.slice aL xs.length cL),(9,Ae n3),(10,Ae i)] [] ⟨w,n5,[(old F w),(Bo pr F b ati 0),(Tz z pr),(Aq z 51 3 Af.cells xs),(Yf z aL xs cL)]⟩ _ _ _) a w' hs
  clear hs a w'
  have hxl:=MP hm;rw[List.length_map]at hxl
  refine Bi ?_
  by_cases h6:(i:Int)<(n3:Int)
  ·refine Aw 10 3 [1] [[oT],[o0,o0,(a1 2)]] [BT ((i:Int)<(n3:Int)),Qb z] [(1,.func (.func 69) #[] #[]),(2,pt z),(9,Ae n3),(10,Ae i),(12,.slice aL xs.length cL),(13,.func (.func 69) #[] #[]),(14,.agg #[pt pr])] rfl ⟨bt,rfl,Ac⟩ ?_
   refine CJ [] [] 69 #[.agg #[pt pr]] (some 15) Ac ?_
   intro w7 hw7
   have hlew7:=BQ.le (hw7.at (i:=1) (c:=(Bo pr F b ati 0)) rfl)
   refine(core_r w7 pr F b ati (hw7.at (i:=1) rfl)).mono ?_
   rintro e w13 (⟨x8,n9,ax11,cp12,hxw13,rfl,hRw13,hkw13,how13⟩ | ⟨n10,hxw13,rfl,hkw13⟩)
   ·obtain⟨hnw13,hSw13⟩:=UR hw7 (i:=1) rfl hRw13 hkw13 how13 z (show z≤n5 by omega)
    have hnw13':n5≤w13.heap.size:=hnw13
    have hllw13:=(PI hB hxw13).1
    refine .inl ⟨_,_,rfl,hSw13, ?_⟩
    refine Ey 0 1 [] [[o0]] [] [(1,.func (.func 69) #[] #[]),(2,pt z),(9,Ae n3),(10,Ae i),(12,.slice aL xs.length cL),(16,.slice (some ⟨w13.heap.size,0,none⟩) 1 1)] ⟨w,w13.heap.size+1,[(old F w),(Bo pr F b n9 0),(Tz z pr),(Aq z 51 3 Af.cells xs),(Yf z aL xs cL),(Au z 51 3 Af.cells (.slice ax11 x8.length cp12) x8),(.blk w13.heap.size (.cells #[.slice ax11 x8.length cp12] 43 (0,0)) true)]⟩ rfl Ac ?_
    refine E8 z 4 6 xs [(⟨ax11,cp12,x8⟩:Sl Af)] (fun x:Sl Af=>[Sl.val x]) 43 1 24 (.slice aL xs.length cL) w13.heap.size 1 1 #[.slice ax11 x8.length cp12] 43 (0,0) true (some 17) (by simp only[List.length_cons,List.length_nil];omega) (show z≤w13.heap.size+1 by omega) (fun ax14 cp15 n16 (hn17:w13.heap.size+1≤n16) => ?_)
    refine AC 5 0 [] [[o0],[(ov (i6 ((i+1:Nat):Int))),o0]] [Wr ((i:Int)+1) (((i+1:Nat):Int))] [(1,.func (.func 69) #[] #[]),(2,pt z),(9,Ae n3),(10,i6 ((i+1:Nat):Int)),(6,.slice ax14 ((xs++[(⟨ax11,cp12,x8⟩:Sl Af)]).length) cp15)] rfl ⟨Bq,Ac⟩ ?_
    refine LK 3 5 [0,1,2,4,6] [(old F w),(Bo pr F b n9 0),(Tz z pr),(Au z 43 1 (fun x:Sl Af=>[Sl.val x]) (.slice ax14 ((xs++[(⟨ax11,cp12,x8⟩:Sl Af)]).length) cp15) (xs++[(⟨ax11,cp12,x8⟩:Sl Af)])),(.blk w13.heap.size (.cells #[.slice ax11 x8.length cp12] 43 (0,0)) true)] ?_
    refine CG [0,1,2,5,3] [(old F w),(Bo pr F b n9 0),(Tz z pr),(Aq z 51 3 Af.cells (xs++[⟨ax11,cp12,x8⟩])),(Au z 43 1 (fun x:Sl Af=>[Sl.val x]) (.slice ax14 ((xs++[(⟨ax11,cp12,x8⟩:Sl Af)]).length) cp15) (xs++[(⟨ax11,cp12,x8⟩:Sl Af)]))] rfl rfl ?_
    refine Ce [1,2,6,9,10] [(1,.func (.func 69) #[] #[]),(2,pt z),(6,.slice ax14 ((xs++[(⟨ax11,cp12,x8⟩:Sl Af)]).length) cp15),(9,Ae n3),(10,i6 ((i+1:Nat):Int))] ?_
    refine BB (fun a w' hs=>⟨n3 - (i+1),by omega,n16,(i+1),(xs++[(⟨ax11,cp12,x8⟩:Sl Af)]),n9,ax14,cp15,rfl,by omega,by omega,by rw[LH];exact Na hm hxw13,hs⟩)
   have hnw13:n5≤w13.heap.size:=AB hw7 hkw13
   have hSw13:=BZ hw7 [0,2,3,4] (i:=1) rfl rfl rfl rfl hkw13
   refine .inr ⟨_,_,rfl,hSw13, ?_⟩
   refine Ba ?_
   intro w18 hw18
   exact .inr ⟨_,QS (by omega) hnn3 (by omega) hm hxw13,rfl,A7 hw18⟩
  refine Aw 15 0 [0] [[oF],[o0,o0]] [BF ((i:Int)<(n3:Int))] [(4,.slice aL xs.length cL)] rfl ⟨bf,Ac⟩ ?_
  refine AU [] [] (.slice aL xs.length cL) Ac ?_
  intro w19 hw19
  exact .inl ⟨⟨aL,cL,xs⟩,ati,QZ (by omega) hnn3 (by omega) hm,rfl,hw19.at (i:=1) rfl,A7 hw19,IR (fs:=Ub ⟨aL,cL,xs⟩) (Zaj ⟨aL,cL,xs⟩) (by have hP:=hw19.pick [4,3] (σ':=[(Yf z aL xs cL),(Aq z 51 3 Af.cells xs)]) rfl rfl;rw[hw19.size];exact hz ▸ hP)⟩
 have hnw2:z+1≤w2.heap.size:=AB hw1 hkw2
 have hSw2:=BZ hw1 [0,2] (i:=1) rfl rfl rfl rfl hkw2
 refine .inr ⟨_,_,rfl,hSw2, ?_⟩
 refine Ba ?_
 intro w20 hw20
 exact .inr ⟨_,PP (by omega),rfl,A7 hw20⟩
section
variable (w2:World)(b:List Int)(at0 z pr:Nat)
abbrev qdz5_0:Ch:= .blk w2.heap.size (.cells #[.string (strOf (DV b (at0+4) (Az b at0 4).toNat)),i6 (Az b (at0+4+(Az b at0 4).toNat) 4),i6 (Az b (at0+4+(Az b at0 4).toNat+4) 4),i6 (Az b (at0+4+(Az b at0 4).toNat+4+4) 4),i6 (Az b (at0+4+(Az b at0 4).toNat+4+4+4) 4),i6 (Az b (at0+4+(Az b at0 4).toNat+4+4+4+4) 4),.slice none 0 0,.slice none 0 0] 47 (0,0)) true
abbrev qdz5_1:Ch:= .blk w2.heap.size (.cells #[.string (strOf (DV b (at0+4) (Az b at0 4).toNat)),i6 (Az b (at0+4+(Az b at0 4).toNat) 4),i6 (Az b (at0+4+(Az b at0 4).toNat+4) 4),i6 (Az b (at0+4+(Az b at0 4).toNat+4+4) 4),i6 0,i6 0,.slice none 0 0,.slice none 0 0] 47 (0,0)) true
abbrev NM:=bk (z+1) #[.string (⟨#[]⟩),i6 0,i6 0,i6 0,i6 0,i6 0,.slice none 0 0,.slice none 0 0] 47
abbrev Lj:=bk z #[pt pr] 117
abbrev Zab:=(20,i6 (Az b (at0+4+(Az b at0 4).toNat+4+4+4+4) 4))
abbrev qdz5_5:=(18,i6 (Az b (at0+4+(Az b at0 4).toNat+4+4+4) 4))
abbrev VD:=(13,i6 (Az b (at0+4+(Az b at0 4).toNat+4+4) 4))
abbrev XT:=(11,i6 (Az b (at0+4+(Az b at0 4).toNat+4) 4))
abbrev Xm:=(9,i6 (Az b (at0+4+(Az b at0 4).toNat) 4))
abbrev Hm:=(3,pt w2.heap.size)
abbrev FI:=(2,pt (z+1))
end
theorem partition_r(w:World)(pr:Nat)(F:Nat→Prop)(b:List Int)(at0:Nat)(hr:BQ w pr F b at0 0):Calls Try.prog 71 #[.agg #[.pointer (some ⟨pr,0,none⟩)]] w fun e w'=>Zw w pr F b (partAt b at0) Ja (fun x=> .agg (Ag.arr x)) Tv e w':=by
 obtain⟨z,hz⟩:∃ z,z=w.heap.size:=⟨_,rfl⟩
 refine Bc (args:=[.agg #[pt pr]]) 30 ⟨w,z,[(old F w),(Bo pr F b at0 0)]⟩ Try.func71 rfl (by kernel_rfl) (by kernel_rfl) (hz ▸ FZ hr) ?_
 have hB:=hr.Nh;have hlen:=hr.len;have hat:=hr.le
 refine Bj [0] [(0,.agg #[pt pr])] ?_
 refine q_c 6 2 [] [[o0,o0],[(a1 2),o0]] [Qb z] [(1,pt z),(FI z),(4,.agg #[pt pr]),(5,.func (.func 85) #[] #[pt z])] ⟨w,z+2,[(old F w),(Bo pr F b at0 0),(Lj z pr),(NM z)]⟩ rfl ⟨rfl,Ac⟩ ?_
 refine CJ [] [] 84 #[.agg #[pt pr],.func (.func 85) #[] #[pt z]] (some 6) Ac ?_
 intro w1 hw1
 refine(it_text w1 pr F b at0 (hw1.at (i:=1) rfl) z (Qc hw1 (i:=1) (j:=2) rfl rfl (by decide)).1 (Qc hw1 (i:=1) (j:=2) rfl rfl (by decide)).2).mono ?_
 rintro e w2 (⟨hqw2,rfl,hRw2,hkw2⟩ | ⟨hqw2,rfl,hkw2⟩)
 ·obtain⟨hnw2,hSw2⟩:=CB hw1 (i:=1) rfl hRw2 hkw2
  have hnw2':z+2≤w2.heap.size:=hnw2
  refine .inl ⟨_,_,rfl,hSw2, ?_⟩
  refine Ey 3 0 [] [[o0,o0,(an 8 4)]] [Qb w2.heap.size,Qb w2.heap.size,Qb w2.heap.size,Qb w2.heap.size,Qb w2.heap.size,Qb w2.heap.size,Qb w2.heap.size,Qb w2.heap.size] [(1,pt z),(FI z),(Hm w2)] ⟨w,w2.heap.size+1,[(old F w),(Bo pr F b (at0+4+(Az b at0 4).toNat) 0),(Lj z pr),(NM z),(.blk w2.heap.size (.cells #[.string (strOf (DV b (at0+4) (Az b at0 4).toNat)),i6 0,i6 0,i6 0,i6 0,i6 0,.slice none 0 0,.slice none 0 0] 47 (0,0)) true)]⟩ rfl ⟨rfl,rfl,rfl,rfl,rfl,rfl,rfl,rfl,Ac⟩ ?_
  refine D5 11 [0,2] [(old F w),(Lj z pr)] rfl rfl ?_
  refine Bz [(0,(a1 1)),(2,(a1 1)),(4,(a1 1))] [1,2,3,8,10,12] [Qb z,Qb z,Qb z] [true,false,true,false,true,false,false,false,false,false,false,false] [(1,pt z),(FI z),(Hm w2),(8,.agg #[pt pr]),(10,.agg #[pt pr]),(12,.agg #[pt pr])] ⟨rfl,rfl,rfl,Ac⟩ ?_
  refine BJ 1 ?_
  refine Ea [] [] 59 #[.agg #[pt pr]] (some 9) (by as_aux_lemma=>kernel_rfl) rfl rfl Ac ?_
  intro w3 hw3
  have hlew3:=BQ.le (hw3.at (i:=1) (c:=(Bo pr F b (at0+4+(Az b at0 4).toNat) 0)) rfl)
  refine(DZ w3 pr F b (at0+4+(Az b at0 4).toNat) (hw3.at (i:=1) rfl)).mono ?_
  rintro e w4 (⟨hqw4,rfl,hRw4,hkw4⟩ | ⟨hqw4,rfl,hkw4⟩)
  ·have hvbw4:=Du hB (at0+4+(Az b at0 4).toNat)
   obtain⟨hnw4,hSw4⟩:=CB hw3 (i:=1) rfl hRw4 hkw4
   have hnw4':w2.heap.size+1≤w4.heap.size:=hnw4
   have hs5:=hSw4
   refine .inl ⟨_,_,rfl,hs5,.inr (fun c hc=>hs5.all c (by first | exact hc | exact BI (is:=[0,2]) rfl c hc)), ?_⟩
   refine Dx [1,2,3,10,12,9] [(1,pt z),(FI z),(Hm w2),(10,.agg #[pt pr]),(12,.agg #[pt pr]),(Xm b at0)] ?_
   refine Bz [(6,o0)] [1,2,3,10,12,9,14] [] [true,true,true,false,true,false,true,false,false,false,false,false] [(1,pt z),(FI z),(Hm w2),(10,.agg #[pt pr]),(12,.agg #[pt pr]),(Xm b at0),(14,.pointer (some ⟨w2.heap.size,1,none⟩))] Ac ?_
   refine BJ 3 ?_
   refine Ea [] [] 59 #[.agg #[pt pr]] (some 11) (by as_aux_lemma=>kernel_rfl) rfl rfl Ac ?_
   intro w6 hw6
   have hlew6:=BQ.le (hw6.at (i:=1) (c:=(Bo pr F b (at0+4+(Az b at0 4).toNat+4) 0)) rfl)
   refine(DZ w6 pr F b (at0+4+(Az b at0 4).toNat+4) (hw6.at (i:=1) rfl)).mono ?_
   rintro e w7 (⟨hqw7,rfl,hRw7,hkw7⟩ | ⟨hqw7,rfl,hkw7⟩)
   ·have hvbw7:=Du hB (at0+4+(Az b at0 4).toNat+4)
    obtain⟨hnw7,hSw7⟩:=CB hw6 (i:=1) rfl hRw7 hkw7
    have hnw7':w4.heap.size≤w7.heap.size:=hnw7
    have hs8:=hSw7
    refine .inl ⟨_,_,rfl,hs8,.inr (fun c hc=>hs8.all c (by first | exact hc | exact BI (is:=[0,2]) rfl c hc)), ?_⟩
    refine Dx [1,2,3,12,9,14,11] [(1,pt z),(FI z),(Hm w2),(12,.agg #[pt pr]),(Xm b at0),(14,.pointer (some ⟨w2.heap.size,1,none⟩)),(XT b at0)] ?_
    refine BJ 5 ?_
    refine Ea [] [] 59 #[.agg #[pt pr]] (some 13) (by as_aux_lemma=>kernel_rfl) rfl rfl Ac ?_
    intro w9 hw9
    have hlew9:=BQ.le (hw9.at (i:=1) (c:=(Bo pr F b (at0+4+(Az b at0 4).toNat+4+4) 0)) rfl)
    refine(DZ w9 pr F b (at0+4+(Az b at0 4).toNat+4+4) (hw9.at (i:=1) rfl)).mono ?_
    rintro e w10 (⟨hqw10,rfl,hRw10,hkw10⟩ | ⟨hqw10,rfl,hkw10⟩)
    ·have hvbw10:=Du hB (at0+4+(Az b at0 4).toNat+4+4)
     obtain⟨hnw10,hSw10⟩:=CB hw9 (i:=1) rfl hRw10 hkw10
     have hnw10':w7.heap.size≤w10.heap.size:=hnw10
     have hs11:=hSw10
     refine .inl ⟨_,_,rfl,hs11,.inr (fun c hc=>hs11.all c (by first | exact hc | exact BI (is:=[0,2]) rfl c hc)), ?_⟩
     refine Dx [1,2,3,9,14,11,13] [(1,pt z),(FI z),(Hm w2),(Xm b at0),(14,.pointer (some ⟨w2.heap.size,1,none⟩)),(XT b at0),(VD b at0)] ?_
     refine BJ 7 ?_
     refine DT (a1 4) [1,2,3,11,13] [Qb w2.heap.size] [(1,pt z),(FI z),(Hm w2),(XT b at0),(VD b at0)] ⟨w,w10.heap.size,[(old F w),(Bo pr F b (at0+4+(Az b at0 4).toNat+4+4+4) 0),(Lj z pr),(NM z),(.blk w2.heap.size (.cells #[.string (strOf (DV b (at0+4) (Az b at0 4).toNat)),i6 (Az b (at0+4+(Az b at0 4).toNat) 4),i6 0,i6 0,i6 0,i6 0,.slice none 0 0,.slice none 0 0] 47 (0,0)) true)]⟩ [0,2] ⟨rfl,Ac⟩ (.inr rfl) ?_
     refine Bz [(8,o0)] [1,2,3,11,13,15] [] (Dh 9 3) [(1,pt z),(FI z),(Hm w2),(XT b at0),(VD b at0),(15,.pointer (some ⟨w2.heap.size,2,none⟩))] Ac ?_
     refine BJ 9 ?_
     refine DT (a1 4) [1,2,3,13] [Qb w2.heap.size] [(1,pt z),(FI z),(Hm w2),(VD b at0)] ⟨w,w10.heap.size,[(old F w),(Bo pr F b (at0+4+(Az b at0 4).toNat+4+4+4) 0),(Lj z pr),(NM z),(.blk w2.heap.size (.cells #[.string (strOf (DV b (at0+4) (Az b at0 4).toNat)),i6 (Az b (at0+4+(Az b at0 4).toNat) 4),i6 (Az b (at0+4+(Az b at0 4).toNat+4) 4),i6 0,i6 0,i6 0,.slice none 0 0,.slice none 0 0] 47 (0,0)) true)]⟩ [0,2] ⟨rfl,Ac⟩ (.inr rfl) ?_
     refine Bz [(10,o0)] [1,2,3,13,16] [] (Dh 11 1) [(1,pt z),(FI z),(Hm w2),(VD b at0),(16,.pointer (some ⟨w2.heap.size,3,none⟩))] Ac ?_
     refine BJ 11 ?_
     refine DT (a1 4) [1,2,3] [Qb w2.heap.size] [(1,pt z),(FI z),(Hm w2)] ⟨w,w10.heap.size,[(old F w),(Bo pr F b (at0+4+(Az b at0 4).toNat+4+4+4) 0),(Lj z pr),(NM z),(qdz5_1 w2 b at0)]⟩ [] ⟨rfl,Ac⟩ (.inl rfl) ?_
     refine Ih 12 [0,1,2,3,4] [(old F w),(Bo pr F b (at0+4+(Az b at0 4).toNat+4+4+4) 0),(Lj z pr),(NM z),(qdz5_1 w2 b at0)] rfl rfl ?_
     refine C9 ?_
     refine Ce [1,2,3] [(1,pt z),(FI z),(Hm w2)] ?_
     refine Hu <| Bi <| D5 7 [0,2] [(old F w),(Lj z pr)] rfl rfl ?_
     refine Bz [(0,(a1 1)),(2,(a1 1))] [1,2,3,17,19] [Qb z,Qb z] [true,false,true,false,false,false,false,false] [(1,pt z),(FI z),(Hm w2),(17,.agg #[pt pr]),(19,.agg #[pt pr])] ⟨rfl,rfl,Ac⟩ ?_
     refine BJ 1 ?_
     refine Ea [] [] 59 #[.agg #[pt pr]] (some 18) (by as_aux_lemma=>kernel_rfl) rfl rfl Ac ?_
     intro w12 hw12
     have hlew12:=BQ.le (hw12.at (i:=1) (c:=(Bo pr F b (at0+4+(Az b at0 4).toNat+4+4+4) 0)) rfl)
     refine(DZ w12 pr F b (at0+4+(Az b at0 4).toNat+4+4+4) (hw12.at (i:=1) rfl)).mono ?_
     rintro e w13 (⟨hqw13,rfl,hRw13,hkw13⟩ | ⟨hqw13,rfl,hkw13⟩)
     ·have hvbw13:=Du hB (at0+4+(Az b at0 4).toNat+4+4+4)
      obtain⟨hnw13,hSw13⟩:=CB hw12 (i:=1) rfl hRw13 hkw13
      have hnw13':w10.heap.size≤w13.heap.size:=hnw13
      have hs14:=hSw13
      refine .inl ⟨_,_,rfl,hs14,.inr (fun c hc=>hs14.all c (by first | exact hc | exact BI (is:=[0,2]) rfl c hc)), ?_⟩
      refine Dx [1,2,3,19,18] [(1,pt z),(FI z),(Hm w2),(19,.agg #[pt pr]),(qdz5_5 b at0)] ?_
      refine Bz [(4,o0)] [1,2,3,19,18,21] [] [true,true,true,false,true,false,false,false] [(1,pt z),(FI z),(Hm w2),(19,.agg #[pt pr]),(qdz5_5 b at0),(21,.pointer (some ⟨w2.heap.size,4,none⟩))] Ac ?_
      refine BJ 3 ?_
      refine Ea [] [] 59 #[.agg #[pt pr]] (some 20) (by as_aux_lemma=>kernel_rfl) rfl rfl Ac ?_
      intro w15 hw15
      have hlew15:=BQ.le (hw15.at (i:=1) (c:=(Bo pr F b (at0+4+(Az b at0 4).toNat+4+4+4+4) 0)) rfl)
      refine(DZ w15 pr F b (at0+4+(Az b at0 4).toNat+4+4+4+4) (hw15.at (i:=1) rfl)).mono ?_
      rintro e w16 (⟨hqw16,rfl,hRw16,hkw16⟩ | ⟨hqw16,rfl,hkw16⟩)
      ·have hvbw16:=Du hB (at0+4+(Az b at0 4).toNat+4+4+4+4)
       obtain⟨hnw16,hSw16⟩:=CB hw15 (i:=1) rfl hRw16 hkw16
       have hnw16':w13.heap.size≤w16.heap.size:=hnw16
       have hs17:=hSw16
       refine .inl ⟨_,_,rfl,hs17,.inr (fun c hc=>hs17.all c (by first | exact hc | exact BI (is:=[0,2]) rfl c hc)), ?_⟩
       refine Dx [1,2,3,18,21,20] [(1,pt z),(FI z),(Hm w2),(qdz5_5 b at0),(21,.pointer (some ⟨w2.heap.size,4,none⟩)),(Zab b at0)] ?_
       refine BJ 5 ?_
       refine DT (a1 4) [1,2,3,20] [Qb w2.heap.size] [(1,pt z),(FI z),(Hm w2),(Zab b at0)] ⟨w,w16.heap.size,[(old F w),(Bo pr F b (at0+4+(Az b at0 4).toNat+4+4+4+4+4) 0),(Lj z pr),(NM z),(.blk w2.heap.size (.cells #[.string (strOf (DV b (at0+4) (Az b at0 4).toNat)),i6 (Az b (at0+4+(Az b at0 4).toNat) 4),i6 (Az b (at0+4+(Az b at0 4).toNat+4) 4),i6 (Az b (at0+4+(Az b at0 4).toNat+4+4) 4),i6 (Az b (at0+4+(Az b at0 4).toNat+4+4+4) 4),i6 0,.slice none 0 0,.slice none 0 0] 47 (0,0)) true)]⟩ [0,2] ⟨rfl,Ac⟩ (.inr rfl) ?_
       refine Bz [(6,o0)] [1,2,3,20,22] [] (Dh 7 1) [(1,pt z),(FI z),(Hm w2),(Zab b at0),(22,.pointer (some ⟨w2.heap.size,5,none⟩))] Ac ?_
       refine BJ 7 ?_
       refine DT (a1 4) [1,2,3] [Qb w2.heap.size] [(1,pt z),(FI z),(Hm w2)] ⟨w,w16.heap.size,[(old F w),(Bo pr F b (at0+4+(Az b at0 4).toNat+4+4+4+4+4) 0),(Lj z pr),(NM z),(qdz5_0 w2 b at0)]⟩ [] ⟨rfl,Ac⟩ (.inl rfl) ?_
       refine Ih 8 [0,1,2,3,4] [(old F w),(Bo pr F b (at0+4+(Az b at0 4).toNat+4+4+4+4+4) 0),(Lj z pr),(NM z),(qdz5_0 w2 b at0)] rfl rfl ?_
       refine C9 ?_
       refine Io 3 1 [] [[(a1 2)]] [Qb z] [(1,pt z),(FI z),(Hm w2),(23,.agg #[pt pr])] rfl ⟨rfl,Ac⟩ ?_
       refine CJ [] [] 87 #[.agg #[pt pr],.func (.func 88) #[] #[]] (some 24) Ac ?_
       intro w18 hw18
       have hlew18:=BQ.le (hw18.at (i:=1) (c:=(Bo pr F b (at0+4+(Az b at0 4).toNat+4+4+4+4+4) 0)) rfl)
       refine(takeR w18 pr F b (at0+4+(Az b at0 4).toNat+4+4+4+4+4) (hw18.at (i:=1) rfl)).mono ?_
       rintro e w24 (⟨x19,n20,ax22,cp23,hxw24,rfl,hRw24,hkw24,how24⟩ | ⟨n21,hxw24,rfl,hkw24⟩)
       ·obtain⟨hnw24,hSw24⟩:=UR hw18 (i:=1) rfl hRw24 hkw24 how24 z (show z≤w16.heap.size by omega)
        have hnw24':w16.heap.size≤w24.heap.size:=hnw24
        have hllw24:=(PI hB hxw24).1
        refine .inl ⟨_,_,rfl,hSw24, ?_⟩
        refine Ey 4 1 [] [[o0,(a1 4)],[(a1 2)]] [Qb w2.heap.size,Qb z] [(FI z),(Hm w2),(26,.agg #[pt pr])] ⟨w,w24.heap.size,[(old F w),(Bo pr F b n20 0),(Lj z pr),(NM z),(.blk w2.heap.size (.cells #[.string (strOf (DV b (at0+4) (Az b at0 4).toNat)),i6 (Az b (at0+4+(Az b at0 4).toNat) 4),i6 (Az b (at0+4+(Az b at0 4).toNat+4) 4),i6 (Az b (at0+4+(Az b at0 4).toNat+4+4) 4),i6 (Az b (at0+4+(Az b at0 4).toNat+4+4+4) 4),i6 (Az b (at0+4+(Az b at0 4).toNat+4+4+4+4) 4),.slice ax22 x19.length cp23,.slice none 0 0] 47 (0,0)) true),(Au z 53 4 Ak.cells (.slice ax22 x19.length cp23) x19)]⟩ rfl ⟨rfl,rfl,Ac⟩ ?_
        refine CJ [] [] 89 #[.agg #[pt pr],.func (.func 90) #[] #[]] (some 27) Ac ?_
        intro w25 hw25
        have hlew25:=BQ.le (hw25.at (i:=1) (c:=(Bo pr F b n20 0)) rfl)
        refine(takeP w25 pr F b n20 (hw25.at (i:=1) rfl)).mono ?_
        rintro e w31 (⟨x26,n27,ax29,cp30,hxw31,rfl,hRw31,hkw31,how31⟩ | ⟨n28,hxw31,rfl,hkw31⟩)
        ·obtain⟨hnw31,hSw31⟩:=UR hw25 (i:=1) rfl hRw31 hkw31 how31 z (show z≤w24.heap.size by omega)
         have hnw31':w24.heap.size≤w31.heap.size:=hnw31
         have hllw31:=(PI hB hxw31).1
         refine .inl ⟨_,_,rfl,hSw31, ?_⟩
         refine Ey 7 0 [] [[o0,(a1 4)],[(an 8 4),(an 8 3)]] [Qb w2.heap.size,Qb w2.heap.size,Qb w2.heap.size,Qb w2.heap.size,Qb w2.heap.size,Qb w2.heap.size,Qb w2.heap.size,Qb w2.heap.size,Qb w2.heap.size,Qb (z+1),Qb (z+1),Qb (z+1),Qb (z+1),Qb (z+1),Qb (z+1),Qb (z+1),Qb (z+1)] [(FI z)] ⟨w,w31.heap.size,[(old F w),(Bo pr F b n27 0),(Lj z pr),(bk (z+1) #[.string (strOf (DV b (at0+4) (Az b at0 4).toNat)),i6 (Az b (at0+4+(Az b at0 4).toNat) 4),i6 (Az b (at0+4+(Az b at0 4).toNat+4) 4),i6 (Az b (at0+4+(Az b at0 4).toNat+4+4) 4),i6 (Az b (at0+4+(Az b at0 4).toNat+4+4+4) 4),i6 (Az b (at0+4+(Az b at0 4).toNat+4+4+4+4) 4),.slice ax22 x19.length cp23,.slice ax29 x26.length cp30] 47),(.blk w2.heap.size (.cells #[.string (strOf (DV b (at0+4) (Az b at0 4).toNat)),i6 (Az b (at0+4+(Az b at0 4).toNat) 4),i6 (Az b (at0+4+(Az b at0 4).toNat+4) 4),i6 (Az b (at0+4+(Az b at0 4).toNat+4+4) 4),i6 (Az b (at0+4+(Az b at0 4).toNat+4+4+4) 4),i6 (Az b (at0+4+(Az b at0 4).toNat+4+4+4+4) 4),.slice ax22 x19.length cp23,.slice ax29 x26.length cp30] 47 (0,0)) true),(Au z 53 4 Ak.cells (.slice ax22 x19.length cp23) x19),(Au z 55 2 Ap.cells (.slice ax29 x26.length cp30) x26)]⟩ rfl ⟨rfl,rfl,rfl,rfl,rfl,rfl,rfl,rfl,rfl,rfl,rfl,rfl,rfl,rfl,rfl,rfl,rfl,Ac⟩ ?_
         refine AU [.at 3,.at 3,.at 3,.at 3,.at 3,.at 3,.at 3,.at 3] [Qb (z+1),Qb (z+1),Qb (z+1),Qb (z+1),Qb (z+1),Qb (z+1),Qb (z+1),Qb (z+1)] (.agg #[.string (strOf (DV b (at0+4) (Az b at0 4).toNat)),i6 (Az b (at0+4+(Az b at0 4).toNat) 4),i6 (Az b (at0+4+(Az b at0 4).toNat+4) 4),i6 (Az b (at0+4+(Az b at0 4).toNat+4+4) 4),i6 (Az b (at0+4+(Az b at0 4).toNat+4+4+4) 4),i6 (Az b (at0+4+(Az b at0 4).toNat+4+4+4+4) 4),.slice ax22 x19.length cp23,.slice ax29 x26.length cp30]) ⟨rfl,rfl,rfl,rfl,rfl,rfl,rfl,rfl,Ac⟩ ?_
         intro w32 hw32
         exact .inl ⟨(⟨(strOf (DV b (at0+4) (Az b at0 4).toNat)),(Az b (at0+4+(Az b at0 4).toNat) 4),(Az b (at0+4+(Az b at0 4).toNat+4) 4),(Az b (at0+4+(Az b at0 4).toNat+4+4) 4),(Az b (at0+4+(Az b at0 4).toNat+4+4+4) 4),(Az b (at0+4+(Az b at0 4).toNat+4+4+4+4) 4),⟨ax22,cp23,x19⟩,⟨ax29,cp30,x26⟩⟩:Ag),_,(by unfold partAt;rw[J9 (by omega),PR.bind_ok,AZ (by omega),PR.bind_ok,AZ (by omega),PR.bind_ok,AZ (by omega),PR.bind_ok,AZ (by omega),PR.bind_ok,AZ (by omega),PR.bind_ok,hxw24,PR.bind_ok,hxw31,PR.bind_ok];rfl),rfl,hw32.at (i:=1) rfl,A7 hw32,IR (fs:=Tv (⟨(strOf (DV b (at0+4) (Az b at0 4).toNat)),(Az b (at0+4+(Az b at0 4).toNat) 4),(Az b (at0+4+(Az b at0 4).toNat+4) 4),(Az b (at0+4+(Az b at0 4).toNat+4+4) 4),(Az b (at0+4+(Az b at0 4).toNat+4+4+4) 4),(Az b (at0+4+(Az b at0 4).toNat+4+4+4+4) 4),⟨ax22,cp23,x19⟩,⟨ax29,cp30,x26⟩⟩:Ag)) (Zae (⟨(strOf (DV b (at0+4) (Az b at0 4).toNat)),(Az b (at0+4+(Az b at0 4).toNat) 4),(Az b (at0+4+(Az b at0 4).toNat+4) 4),(Az b (at0+4+(Az b at0 4).toNat+4+4) 4),(Az b (at0+4+(Az b at0 4).toNat+4+4+4) 4),(Az b (at0+4+(Az b at0 4).toNat+4+4+4+4) 4),⟨ax22,cp23,x19⟩,⟨ax29,cp30,x26⟩⟩:Ag)) (by have hP:=hw32.pick [5,6] (σ':=[(Au z 53 4 Ak.cells (.slice ax22 x19.length cp23) x19),(Au z 55 2 Ap.cells (.slice ax29 x26.length cp30) x26)]) rfl rfl;rw[hw32.size];exact hz ▸ hP)⟩
        have hnw31:w24.heap.size≤w31.heap.size:=AB hw25 hkw31
        have hSw31:=BZ hw25 [0,2,3,4,5] (i:=1) rfl rfl rfl rfl hkw31
        refine .inr ⟨_,_,rfl,hSw31, ?_⟩
        refine Ba ?_
        intro w33 hw33
        exact .inr ⟨_,(by unfold partAt;rw[J9 (by omega),PR.bind_ok,AZ (by omega),PR.bind_ok,AZ (by omega),PR.bind_ok,AZ (by omega),PR.bind_ok,AZ (by omega),PR.bind_ok,AZ (by omega),PR.bind_ok,hxw24,PR.bind_ok,hxw31,PR.Dq]),rfl,A7 hw33⟩
       have hnw24:w16.heap.size≤w24.heap.size:=AB hw18 hkw24
       have hSw24:=BZ hw18 [0,2,3,4] (i:=1) rfl rfl rfl rfl hkw24
       refine .inr ⟨_,_,rfl,hSw24, ?_⟩
       refine Ba ?_
       intro w34 hw34
       exact .inr ⟨_,(by unfold partAt;rw[J9 (by omega),PR.bind_ok,AZ (by omega),PR.bind_ok,AZ (by omega),PR.bind_ok,AZ (by omega),PR.bind_ok,AZ (by omega),PR.bind_ok,AZ (by omega),PR.bind_ok,hxw24,PR.Dq]),rfl,A7 hw34⟩
      have hnw16:w13.heap.size≤w16.heap.size:=AB hw15 hkw16
      have hSw16:=BZ hw15 [0,2,3,4] (i:=1) rfl rfl rfl rfl hkw16
      refine .inr ⟨_,_,rfl,hSw16, ?_⟩
      refine Ba ?_
      intro w35 hw35
      exact .inr ⟨_,(by unfold partAt;rw[J9 (by omega),PR.bind_ok,AZ (by omega),PR.bind_ok,AZ (by omega),PR.bind_ok,AZ (by omega),PR.bind_ok,AZ (by omega),PR.bind_ok,DU (by omega),PR.Dq]),rfl,A7 hw35⟩
     have hnw13:w10.heap.size≤w13.heap.size:=AB hw12 hkw13
     have hSw13:=BZ hw12 [0,2,3,4] (i:=1) rfl rfl rfl rfl hkw13
     refine .inr ⟨_,_,rfl,hSw13, ?_⟩
     refine Ba ?_
     intro w36 hw36
     exact .inr ⟨_,(by unfold partAt;rw[J9 (by omega),PR.bind_ok,AZ (by omega),PR.bind_ok,AZ (by omega),PR.bind_ok,AZ (by omega),PR.bind_ok,DU (by omega),PR.Dq]),rfl,A7 hw36⟩
    have hnw10:w7.heap.size≤w10.heap.size:=AB hw9 hkw10
    have hSw10:=BZ hw9 [0,2,3,4] (i:=1) rfl rfl rfl rfl hkw10
    refine .inr ⟨_,_,rfl,hSw10, ?_⟩
    refine Ba ?_
    intro w37 hw37
    exact .inr ⟨_,(by unfold partAt;rw[J9 (by omega),PR.bind_ok,AZ (by omega),PR.bind_ok,AZ (by omega),PR.bind_ok,DU (by omega),PR.Dq]),rfl,A7 hw37⟩
   have hnw7:w4.heap.size≤w7.heap.size:=AB hw6 hkw7
   have hSw7:=BZ hw6 [0,2,3,4] (i:=1) rfl rfl rfl rfl hkw7
   refine .inr ⟨_,_,rfl,hSw7, ?_⟩
   refine Ba ?_
   intro w38 hw38
   exact .inr ⟨_,(by unfold partAt;rw[J9 (by omega),PR.bind_ok,AZ (by omega),PR.bind_ok,DU (by omega),PR.Dq]),rfl,A7 hw38⟩
  have hnw4:w2.heap.size+1≤w4.heap.size:=AB hw3 hkw4
  have hSw4:=BZ hw3 [0,2,3,4] (i:=1) rfl rfl rfl rfl hkw4
  refine .inr ⟨_,_,rfl,hSw4, ?_⟩
  refine Ba ?_
  intro w39 hw39
  exact .inr ⟨_,(by unfold partAt;rw[J9 (by omega),PR.bind_ok,DU (by omega),PR.Dq]),rfl,A7 hw39⟩
 have hnw2:z+2≤w2.heap.size:=AB hw1 hkw2
 have hSw2:=BZ hw1 [0,2,3] (i:=1) rfl rfl rfl rfl hkw2
 refine .inr ⟨_,_,rfl,hSw2, ?_⟩
 refine Ba ?_
 intro w40 hw40
 exact .inr ⟨_,(by unfold partAt;rw[SG (by omega),PR.Dq]),rfl,A7 hw40⟩
def CMPost{α β:Type}(w:World)(pc:Nat)(l:Sl Int)(at':Nat)(bad:Bool)(r:PR β)(pl:α→β)(val:α→Value)(fs:α→List (Nat→Ch))(e:Ending)(w':World):Prop :=
 ∃ x bd a,e = .returned (val x)∧Step bad at' r bd a (pl x)∧a≤l.xs.length∧FO w' pc l a bd∧AV (fun b=>b=pc) w w'∧Made w w' (fs x)
theorem WX{A:AW}{w w':World}{i pc:Nat}{cp cp':Array Value}{tp:TypeId}{fs:List (Nat→Ch)}(h:Sat A w)(hi:A.σ[i]? = some (.blk pc (.cells cp tp (0,0)) true))(hc:At w' pc (.cells cp' tp (0,0)))(hk:AV (fun b=>b=pc) w w')(hM:Made w w' fs)(z:Nat)(hz:z≤A.n):A.n≤w'.heap.size∧Sat { A with n:=w'.heap.size,σ:=A.σ.set i (.blk pc (.cells cp' tp (0,0)) true)++fs.map (· z) } w' :=
 ⟨AB h hk,h.UF hi rfl rfl hk hc (Ch.DI _ _ _) (fun _ h=>h) (hM.1 z (by rw[h.size];exact hz)) (hM.2 z)⟩
theorem FH.moreM{α β:Type}{pl:α→β}{bd1 bd:Bool}{a1 a a2 i:Nat}{one:Nat→PR β}{xs:List α}{x:α}(h:FH bd1 a1 one i false a (xs.map pl))(hx:Step false a (one a) bd a2 (pl x)):FH bd1 a1 one (i+1) bd a2 ((xs++[x]).map pl):=by
 rw[LH];exact h.more hx
section
variable (z:Nat)(w5:World)(pc:Nat)
abbrev Q3:=bk z #[.string (⟨#[]⟩),i6 0,i6 0,i6 0,i6 0,i6 0,.slice none 0 0,.slice none 0 0] 47
abbrev SC:=(3,pt w5.heap.size)
abbrev Qs:=(0,pt pc)
end
theorem cpart(w:World)(pc:Nat)(l:Sl Int)(at0:Nat)(bad:Bool)(hc:FO w pc l at0 bad)(hl:BD Bh 1 (fun x=>x<w.heap.size∧¬ x=pc) w l)(hB:Ef l.xs)(hlen:l.xs.length≤16384)(hat:at0≤l.xs.length):Calls Try.prog 78 #[.pointer (some ⟨pc,0,none⟩)] w fun e w'=>CMPost w pc l at0 bad (partAt l.xs at0) Ja (fun x=> .agg (Ag.arr x)) Tv e w':=by
 obtain⟨z,hz⟩:∃ z,z=w.heap.size:=⟨_,rfl⟩
 refine Bc (args:=[pt pc]) 29 ⟨w,z,[(old (fun b=>b=pc) w),(bk pc #[.slice l.a l.xs.length l.cap,Ae at0,.bool bad] 121)]⟩ Try.func78 rfl (by kernel_rfl) (by kernel_rfl) (hz ▸ JC hc) ?_
 refine Bj [0] [(Qs pc)] ?_
 refine q_c 6 1 [] [[o0],[o0]] [] [(Qs pc),(2,pt z),(4,pt pc)] ⟨w,z+1,[(old (fun b=>b=pc) w),(bk pc #[.slice l.a l.xs.length l.cap,Ae at0,.bool bad] 121),(Q3 z)]⟩ rfl Ac ?_
 refine l_call [] [] 91 #[pt pc] (some 5) Ac ?_
 intro w1 hw1
 refine(stext_calls (hw1.at (i:=1) rfl) (Bf (fun x _ _ hx hv=>BC hv hx.2 _ (hw1.at (i:=0) rfl)) (fun x hx=>⟨Nat.lt_of_lt_of_le hx.1 (by rw[hw1.size];show w.heap.size≤z+1;omega),hx.2⟩) hl) hB hlen (by omega)).mono ?_
 rintro e w5 ⟨s2,d3,n4,rfl,hstw5,hrxw5,hlaw5,hCw5,hkw5⟩
 obtain⟨hnw5,hSw5⟩:=BR hw1 (i:=1) rfl hCw5 hkw5;have hnw5':z+1≤w5.heap.size:=hnw5
 refine⟨_,_,rfl,hSw5, ?_⟩
 refine Ey 4 1 [] [[o0,o0,(an 8 3)],[o0]] [Qb w5.heap.size,Qb w5.heap.size,Qb w5.heap.size,Qb w5.heap.size,Qb w5.heap.size,Qb w5.heap.size,Qb w5.heap.size,Qb w5.heap.size] [(Qs pc),(2,pt z),(SC w5),(7,pt pc)] ⟨w,w5.heap.size+1,[(old (fun b=>b=pc) w),(bk pc #[.slice l.a l.xs.length l.cap,Ae n4,.bool d3] 121),(Q3 z),(.blk w5.heap.size (.cells #[.string s2,i6 0,i6 0,i6 0,i6 0,i6 0,.slice none 0 0,.slice none 0 0] 47 (0,0)) true)]⟩ rfl ⟨rfl,rfl,rfl,rfl,rfl,rfl,rfl,rfl,Ac⟩ ?_
 refine l_call [] [] 63 #[pt pc,i6 4] (some 8) Ac ?_
 intro w6 hw6
 refine(Dl (hw6.at (i:=1) rfl) (Bf (fun x _ _ hx hv=>BC hv hx.2 _ (hw6.at (i:=0) rfl)) (fun x hx=>⟨Nat.lt_of_lt_of_le hx.1 (by rw[hw6.size];show w.heap.size≤w5.heap.size+1;omega),hx.2⟩) hl) hB hlen (by omega)).mono ?_
 rintro e w10 ⟨v7,d8,n9,rfl,hstw10,hrxw10,hlaw10,hCw10,hkw10⟩
 obtain⟨hnw10,hSw10⟩:=BR hw6 (i:=1) rfl hCw10 hkw10;have hnw10':w5.heap.size+1≤w10.heap.size:=hnw10
 refine⟨_,_,rfl,hSw10, ?_⟩
 refine Ey 4 1 [] [[o0,(a1 3)],[o0]] [Qb w5.heap.size] [(Qs pc),(2,pt z),(SC w5),(10,pt pc)] ⟨w,w10.heap.size,[(old (fun b=>b=pc) w),(bk pc #[.slice l.a l.xs.length l.cap,Ae n9,.bool d8] 121),(Q3 z),(.blk w5.heap.size (.cells #[.string s2,i6 v7,i6 0,i6 0,i6 0,i6 0,.slice none 0 0,.slice none 0 0] 47 (0,0)) true)]⟩ rfl ⟨rfl,Ac⟩ ?_
 refine l_call [] [] 63 #[pt pc,i6 4] (some 11) Ac ?_
 intro w11 hw11
 refine(Dl (hw11.at (i:=1) rfl) (Bf (fun x _ _ hx hv=>BC hv hx.2 _ (hw11.at (i:=0) rfl)) (fun x hx=>⟨Nat.lt_of_lt_of_le hx.1 (by rw[hw11.size];show w.heap.size≤w10.heap.size;omega),hx.2⟩) hl) hB hlen (by omega)).mono ?_
 rintro e w15 ⟨v12,d13,n14,rfl,hstw15,hrxw15,hlaw15,hCw15,hkw15⟩
 obtain⟨hnw15,hSw15⟩:=BR hw11 (i:=1) rfl hCw15 hkw15;have hnw15':w10.heap.size≤w15.heap.size:=hnw15
 refine⟨_,_,rfl,hSw15, ?_⟩
 refine Ey 4 1 [] [[o0,(a1 3)],[o0]] [Qb w5.heap.size] [(Qs pc),(2,pt z),(SC w5),(13,pt pc)] ⟨w,w15.heap.size,[(old (fun b=>b=pc) w),(bk pc #[.slice l.a l.xs.length l.cap,Ae n14,.bool d13] 121),(Q3 z),(.blk w5.heap.size (.cells #[.string s2,i6 v7,i6 v12,i6 0,i6 0,i6 0,.slice none 0 0,.slice none 0 0] 47 (0,0)) true)]⟩ rfl ⟨rfl,Ac⟩ ?_
 refine l_call [] [] 63 #[pt pc,i6 4] (some 14) Ac ?_
 intro w16 hw16
 refine(Dl (hw16.at (i:=1) rfl) (Bf (fun x _ _ hx hv=>BC hv hx.2 _ (hw16.at (i:=0) rfl)) (fun x hx=>⟨Nat.lt_of_lt_of_le hx.1 (by rw[hw16.size];show w.heap.size≤w15.heap.size;omega),hx.2⟩) hl) hB hlen (by omega)).mono ?_
 rintro e w20 ⟨v17,d18,n19,rfl,hstw20,hrxw20,hlaw20,hCw20,hkw20⟩
 obtain⟨hnw20,hSw20⟩:=BR hw16 (i:=1) rfl hCw20 hkw20;have hnw20':w15.heap.size≤w20.heap.size:=hnw20
 refine⟨_,_,rfl,hSw20, ?_⟩
 refine Ey 4 1 [] [[o0,(a1 3)],[o0]] [Qb w5.heap.size] [(Qs pc),(2,pt z),(SC w5),(16,pt pc)] ⟨w,w20.heap.size,[(old (fun b=>b=pc) w),(bk pc #[.slice l.a l.xs.length l.cap,Ae n19,.bool d18] 121),(Q3 z),(.blk w5.heap.size (.cells #[.string s2,i6 v7,i6 v12,i6 v17,i6 0,i6 0,.slice none 0 0,.slice none 0 0] 47 (0,0)) true)]⟩ rfl ⟨rfl,Ac⟩ ?_
 refine l_call [] [] 63 #[pt pc,i6 4] (some 17) Ac ?_
 intro w21 hw21
 refine(Dl (hw21.at (i:=1) rfl) (Bf (fun x _ _ hx hv=>BC hv hx.2 _ (hw21.at (i:=0) rfl)) (fun x hx=>⟨Nat.lt_of_lt_of_le hx.1 (by rw[hw21.size];show w.heap.size≤w20.heap.size;omega),hx.2⟩) hl) hB hlen (by omega)).mono ?_
 rintro e w25 ⟨v22,d23,n24,rfl,hstw25,hrxw25,hlaw25,hCw25,hkw25⟩
 obtain⟨hnw25,hSw25⟩:=BR hw21 (i:=1) rfl hCw25 hkw25;have hnw25':w20.heap.size≤w25.heap.size:=hnw25
 refine⟨_,_,rfl,hSw25, ?_⟩
 refine Ey 4 1 [] [[o0,(a1 3)],[o0]] [Qb w5.heap.size] [(Qs pc),(2,pt z),(SC w5),(19,pt pc)] ⟨w,w25.heap.size,[(old (fun b=>b=pc) w),(bk pc #[.slice l.a l.xs.length l.cap,Ae n24,.bool d23] 121),(Q3 z),(.blk w5.heap.size (.cells #[.string s2,i6 v7,i6 v12,i6 v17,i6 v22,i6 0,.slice none 0 0,.slice none 0 0] 47 (0,0)) true)]⟩ rfl ⟨rfl,Ac⟩ ?_
 refine l_call [] [] 63 #[pt pc,i6 4] (some 20) Ac ?_
 intro w26 hw26
 refine(Dl (hw26.at (i:=1) rfl) (Bf (fun x _ _ hx hv=>BC hv hx.2 _ (hw26.at (i:=0) rfl)) (fun x hx=>⟨Nat.lt_of_lt_of_le hx.1 (by rw[hw26.size];show w.heap.size≤w25.heap.size;omega),hx.2⟩) hl) hB hlen (by omega)).mono ?_
 rintro e w30 ⟨v27,d28,n29,rfl,hstw30,hrxw30,hlaw30,hCw30,hkw30⟩
 obtain⟨hnw30,hSw30⟩:=BR hw26 (i:=1) rfl hCw30 hkw30;have hnw30':w25.heap.size≤w30.heap.size:=hnw30
 refine⟨_,_,rfl,hSw30, ?_⟩
 refine Ey 4 1 [] [[o0,(a1 3)],[o0]] [Qb w5.heap.size] [(Qs pc),(2,pt z),(SC w5),(22,pt pc)] ⟨w,w30.heap.size,[(old (fun b=>b=pc) w),(bk pc #[.slice l.a l.xs.length l.cap,Ae n29,.bool d28] 121),(Q3 z),(.blk w5.heap.size (.cells #[.string s2,i6 v7,i6 v12,i6 v17,i6 v22,i6 v27,.slice none 0 0,.slice none 0 0] 47 (0,0)) true)]⟩ rfl ⟨rfl,Ac⟩ ?_
 refine l_call [] [] 92 #[pt pc] (some 23) Ac ?_
 intro w31 hw31
 refine(cregs w31 pc l n29 d28 (hw31.at (i:=1) rfl) (Bf (fun x _ _ hx hv=>BC hv hx.2 _ (hw31.at (i:=0) rfl)) (fun x hx=>⟨Nat.lt_of_lt_of_le hx.1 (by rw[hw31.size];show w.heap.size≤w30.heap.size;omega),hx.2⟩) hl) hB hlen (by omega)).mono ?_
 rintro e w37 ⟨x32,d33,n34,ax35,cp36,rfl,hstw37,hxlw37,hlaw37,hCw37,hkw37,how37⟩
 obtain⟨hnw37,hSw37⟩:=Yw hw31 (i:=1) rfl hCw37 hkw37 how37 z (show z≤w30.heap.size by omega);have hnw37':w30.heap.size≤w37.heap.size:=hnw37
 refine⟨_,_,rfl,hSw37, ?_⟩
 refine Ey 4 1 [] [[o0,(a1 3)],[o0]] [Qb w5.heap.size] [(2,pt z),(SC w5),(25,pt pc)] ⟨w,w37.heap.size,[(old (fun b=>b=pc) w),(bk pc #[.slice l.a l.xs.length l.cap,Ae n34,.bool d33] 121),(Q3 z),(.blk w5.heap.size (.cells #[.string s2,i6 v7,i6 v12,i6 v17,i6 v22,i6 v27,.slice ax35 x32.length cp36,.slice none 0 0] 47 (0,0)) true),(Au z 53 4 Ak.cells (.slice ax35 x32.length cp36) x32)]⟩ rfl ⟨rfl,Ac⟩ ?_
 refine l_call [] [] 93 #[pt pc] (some 26) Ac ?_
 intro w38 hw38
 refine(cports w38 pc l n34 d33 (hw38.at (i:=1) rfl) (Bf (fun x _ _ hx hv=>BC hv hx.2 _ (hw38.at (i:=0) rfl)) (fun x hx=>⟨Nat.lt_of_lt_of_le hx.1 (by rw[hw38.size];show w.heap.size≤w37.heap.size;omega),hx.2⟩) hl) hB hlen (by omega)).mono ?_
 rintro e w44 ⟨x39,d40,n41,ax42,cp43,rfl,hstw44,hxlw44,hlaw44,hCw44,hkw44,how44⟩
 obtain⟨hnw44,hSw44⟩:=Yw hw38 (i:=1) rfl hCw44 hkw44 how44 z (show z≤w37.heap.size by omega);have hnw44':w37.heap.size≤w44.heap.size:=hnw44
 refine⟨_,_,rfl,hSw44, ?_⟩
 refine Ey 7 0 [] [[o0,(a1 3)],[(an 8 3),(an 8 2)]] [Qb w5.heap.size,Qb w5.heap.size,Qb w5.heap.size,Qb w5.heap.size,Qb w5.heap.size,Qb w5.heap.size,Qb w5.heap.size,Qb w5.heap.size,Qb w5.heap.size,Qb z,Qb z,Qb z,Qb z,Qb z,Qb z,Qb z,Qb z] [(2,pt z)] ⟨w,w44.heap.size,[(old (fun b=>b=pc) w),(bk pc #[.slice l.a l.xs.length l.cap,Ae n41,.bool d40] 121),(bk z #[.string s2,i6 v7,i6 v12,i6 v17,i6 v22,i6 v27,.slice ax35 x32.length cp36,.slice ax42 x39.length cp43] 47),(.blk w5.heap.size (.cells #[.string s2,i6 v7,i6 v12,i6 v17,i6 v22,i6 v27,.slice ax35 x32.length cp36,.slice ax42 x39.length cp43] 47 (0,0)) true),(Au z 53 4 Ak.cells (.slice ax35 x32.length cp36) x32),(Au z 55 2 Ap.cells (.slice ax42 x39.length cp43) x39)]⟩ rfl ⟨rfl,rfl,rfl,rfl,rfl,rfl,rfl,rfl,rfl,rfl,rfl,rfl,rfl,rfl,rfl,rfl,rfl,Ac⟩ ?_
 refine AU [.at 2,.at 2,.at 2,.at 2,.at 2,.at 2,.at 2,.at 2] [Qb z,Qb z,Qb z,Qb z,Qb z,Qb z,Qb z,Qb z] (.agg #[.string s2,i6 v7,i6 v12,i6 v17,i6 v22,i6 v27,.slice ax35 x32.length cp36,.slice ax42 x39.length cp43]) ⟨rfl,rfl,rfl,rfl,rfl,rfl,rfl,rfl,Ac⟩ ?_
 intro w45 hw45
 exact⟨(⟨s2,v7,v12,v17,v22,v27,⟨ax35,cp36,x32⟩,⟨ax42,cp43,x39⟩⟩:Ag),_,_,rfl,(by unfold partAt;exact hstw5.bind (hstw10.bind (hstw15.bind (hstw20.bind (hstw25.bind (hstw30.bind (hstw37.bind (hstw44.map)))))))),by omega,hw45.at (i:=1) rfl,A7 hw45,IR (fs:=Tv (⟨s2,v7,v12,v17,v22,v27,⟨ax35,cp36,x32⟩,⟨ax42,cp43,x39⟩⟩:Ag)) (Zae (⟨s2,v7,v12,v17,v22,v27,⟨ax35,cp36,x32⟩,⟨ax42,cp43,x39⟩⟩:Ag)) (by have hP:=hw45.pick [4,5] (σ':=[(Au z 53 4 Ak.cells (.slice ax35 x32.length cp36) x32),(Au z 55 2 Ap.cells (.slice ax42 x39.length cp43) x39)]) rfl rfl;rw[hw45.size];exact hz ▸ hP)⟩
section
variable (z:Nat)(v2 v7:Int)(v12 v17:Int)(aL0:Option Addr)(xs0:List (Sl Af))(cL0:Nat)(ax144:Option Addr)(xs1:List Ag)(x139:Ag)(cp145:Nat)(ax58:Option Addr)(x53:Ag)(cp59:Nat)(w142 w56:World)(ax38 ax34:Option Addr)(cp35:Nat)(x31:List Af)(cp39:Nat)(aL1:Option Addr)(cL1:Nat)(aL2:Option Addr)(xs2:List Ar)(cL2 pc:Nat)(l:Sl Int)(n118:Nat)(d117:Bool)(n141:Nat)(d140:Bool)(n171:Nat)(d170:Bool)(n204:Nat)(d203:Bool)(at2 n33:Nat)(d32:Bool)(at1:Nat)(bd1:Bool)(n55:Nat)(d54 bd2:Bool)(n85:Nat)(d84:Bool)(w36:World)(i2:Nat)
abbrev Ut:=bk (z+1) #[i6 v2,i6 v7,i6 v12,i6 v17,.slice aL0 xs0.length cL0,.slice ax144 ((xs1++[(⟨x139.Name,x139.Entry,x139.AP,x139.AA,x139.AQ,x139.AL,(⟨x139.Ad.a,x139.Ad.cap,x139.Ad.xs⟩:Sl Ak),(⟨x139.Ai.a,x139.Ai.cap,x139.Ai.xs⟩:Sl Ap)⟩:Ag)]).length) cp145,.slice none 0 0] 26
abbrev Uf:=bk (z+1) #[i6 v2,i6 v7,i6 v12,i6 v17,.slice aL0 xs0.length cL0,.slice ax58 ((xs1++[(⟨x53.Name,x53.Entry,x53.AP,x53.AA,x53.AQ,x53.AL,(⟨x53.Ad.a,x53.Ad.cap,x53.Ad.xs⟩:Sl Ak),(⟨x53.Ai.a,x53.Ai.cap,x53.Ai.xs⟩:Sl Ap)⟩:Ag)]).length) cp59,.slice none 0 0] 26
abbrev TQ:Ch:= .blk w142.heap.size (.cells #[.string x139.Name,i6 x139.Entry,i6 x139.AP,i6 x139.AA,i6 x139.AQ,i6 x139.AL,.slice x139.Ad.a x139.Ad.xs.length x139.Ad.cap,.slice x139.Ai.a x139.Ai.xs.length x139.Ai.cap] 47 (0,0)) true
abbrev Ur:Ch:= .blk w56.heap.size (.cells #[.string x53.Name,i6 x53.Entry,i6 x53.AP,i6 x53.AA,i6 x53.AQ,i6 x53.AL,.slice x53.Ad.a x53.Ad.xs.length x53.Ad.cap,.slice x53.Ai.a x53.Ai.xs.length x53.Ai.cap] 47 (0,0)) true
abbrev XA:=bk (z+1) #[i6 v2,i6 v7,i6 v12,i6 v17,.slice ax38 ((xs0++[(⟨ax34,cp35,x31⟩:Sl Af)]).length) cp39,.slice none 0 0,.slice none 0 0] 26
abbrev Ii:=bk (z+1) #[i6 v2,i6 v7,i6 v12,i6 v17,.slice aL0 xs0.length cL0,.slice aL1 xs1.length cL1,.slice aL2 xs2.length cL2] 26
abbrev Qm:=bk z #[i6 v2,i6 v7,i6 v12,i6 v17,.slice aL0 xs0.length cL0,.slice aL1 xs1.length cL1,.slice aL2 xs2.length cL2] 26
abbrev NU:=bk (z+1) #[i6 v2,i6 v7,i6 v12,i6 v17,.slice aL0 xs0.length cL0,.slice aL1 xs1.length cL1,.slice none 0 0] 26
abbrev TF:=bk (z+1) #[i6 v2,i6 v7,i6 v12,i6 v17,.slice aL0 xs0.length cL0,.slice none 0 0,.slice none 0 0] 26
abbrev CW:=bk z #[i6 0,i6 0,i6 0,i6 0,.slice none 0 0,.slice none 0 0,.slice none 0 0] 26
abbrev YF:=bk pc #[.slice l.a l.xs.length l.cap,Ae n118,.bool d117] 121
abbrev PW:=bk pc #[.slice l.a l.xs.length l.cap,Ae n141,.bool d140] 121
abbrev Yr:=bk pc #[.slice l.a l.xs.length l.cap,Ae n171,.bool d170] 121
abbrev Y4:=bk pc #[.slice l.a l.xs.length l.cap,Ae n204,.bool d203] 121
abbrev Wh:=bk pc #[.slice l.a l.xs.length l.cap,Ae at2,.bool true] 121
abbrev TA:=bk pc #[.slice l.a l.xs.length l.cap,Ae n33,.bool d32] 121
abbrev QW:=bk pc #[.slice l.a l.xs.length l.cap,Ae at1,.bool bd1] 121
abbrev PZ:=bk pc #[.slice l.a l.xs.length l.cap,Ae n55,.bool d54] 121
abbrev KE:=bk pc #[.slice l.a l.xs.length l.cap,Ae at2,.bool bd2] 121
abbrev Yu:=bk pc #[.slice l.a l.xs.length l.cap,Ae n85,.bool d84] 121
abbrev Wp:Ch:= .blk w36.heap.size (.cells #[.slice ax34 x31.length cp35] 43 (0,0)) true
abbrev QX:=Au z 47 8 Ag.cells (.slice ax144 ((xs1++[(⟨x139.Name,x139.Entry,x139.AP,x139.AA,x139.AQ,x139.AL,(⟨x139.Ad.a,x139.Ad.cap,x139.Ad.xs⟩:Sl Ak),(⟨x139.Ai.a,x139.Ai.cap,x139.Ai.xs⟩:Sl Ap)⟩:Ag)]).length) cp145) (xs1++[(⟨x139.Name,x139.Entry,x139.AP,x139.AA,x139.AQ,x139.AL,(⟨x139.Ad.a,x139.Ad.cap,x139.Ad.xs⟩:Sl Ak),(⟨x139.Ai.a,x139.Ai.cap,x139.Ai.xs⟩:Sl Ap)⟩:Ag)])
abbrev QR:=Au z 47 8 Ag.cells (.slice ax58 ((xs1++[(⟨x53.Name,x53.Entry,x53.AP,x53.AA,x53.AQ,x53.AL,(⟨x53.Ad.a,x53.Ad.cap,x53.Ad.xs⟩:Sl Ak),(⟨x53.Ai.a,x53.Ai.cap,x53.Ai.xs⟩:Sl Ap)⟩:Ag)]).length) cp59) (xs1++[(⟨x53.Name,x53.Entry,x53.AP,x53.AA,x53.AQ,x53.AL,(⟨x53.Ad.a,x53.Ad.cap,x53.Ad.xs⟩:Sl Ak),(⟨x53.Ai.a,x53.Ai.cap,x53.Ai.xs⟩:Sl Ap)⟩:Ag)])
abbrev Ws:=Au z 43 1 (fun x:Sl Af=>[Sl.val x]) (.slice ax38 ((xs0++[(⟨ax34,cp35,x31⟩:Sl Af)]).length) cp39) (xs0++[(⟨ax34,cp35,x31⟩:Sl Af)])
abbrev VT:=Au z 53 4 Ak.cells (.slice x139.Ad.a x139.Ad.xs.length x139.Ad.cap) x139.Ad.xs
abbrev Wj:=Au z 53 4 Ak.cells (.slice x53.Ad.a x53.Ad.xs.length x53.Ad.cap) x53.Ad.xs
abbrev TB:=Au z 55 2 Ap.cells (.slice x139.Ai.a x139.Ai.xs.length x139.Ai.cap) x139.Ai.xs
abbrev TS:=Au z 55 2 Ap.cells (.slice x53.Ai.a x53.Ai.xs.length x53.Ai.cap) x53.Ai.xs
abbrev BP:=Au z 43 1 (fun x:Sl Af=>[Sl.val x]) (.slice aL0 xs0.length cL0) xs0
abbrev Dj:=Au z 47 8 Ag.cells (.slice aL1 xs1.length cL1) xs1
abbrev EP:=Au z 57 3 Ar.cells (.slice aL2 xs2.length cL2) xs2
abbrev CO:=Aq z 53 4 Ak.cells (xs1.map Ag.Ad)
abbrev Cm:=Aq z 55 2 Ap.cells (xs1.map Ag.Ai)
abbrev Yl:EM:=(63,.slice ax144 ((xs1++[(⟨x139.Name,x139.Entry,x139.AP,x139.AA,x139.AQ,x139.AL,(⟨x139.Ad.a,x139.Ad.cap,x139.Ad.xs⟩:Sl Ak),(⟨x139.Ai.a,x139.Ai.cap,x139.Ai.xs⟩:Sl Ap)⟩:Ag)]).length) cp145)
abbrev Y7:EM:=(63,.slice ax58 ((xs1++[(⟨x53.Name,x53.Entry,x53.AP,x53.AA,x53.AQ,x53.AL,(⟨x53.Ad.a,x53.Ad.cap,x53.Ad.xs⟩:Sl Ak),(⟨x53.Ai.a,x53.Ai.cap,x53.Ai.xs⟩:Sl Ap)⟩:Ag)]).length) cp59)
abbrev Be:=(3,pt (z+1))
abbrev OH:=(7,i6 ((i2+1:Nat):Int))
abbrev Bd:=(0,pt pc)
end
theorem cconf(w:World)(pc:Nat)(l:Sl Int)(at0:Nat)(bad:Bool)(hc:FO w pc l at0 bad)(hl:BD Bh 1 (fun x=>x<w.heap.size∧¬ x=pc) w l)(hB:Ef l.xs)(hlen:l.xs.length≤16384)(hat:at0≤l.xs.length):Calls Try.prog 62 #[.pointer (some ⟨pc,0,none⟩)] w fun e w'=>CMPost w pc l at0 bad (Eg l.xs at0) Hz (fun x=> .agg (Am.arr x)) HY e w':=by
 obtain⟨z,hz⟩:∃ z,z=w.heap.size:=⟨_,rfl⟩
 refine Bc (args:=[pt pc]) 95 ⟨w,z,[(old (fun b=>b=pc) w),(bk pc #[.slice l.a l.xs.length l.cap,Ae at0,.bool bad] 121)]⟩ Try.func62 rfl (by kernel_rfl) (by kernel_rfl) (hz ▸ JC hc) ?_
 refine Bj [0] [(Bd pc)] ?_
 refine q_c 10 1 [] [[o0],[o0],[o0]] [] [(Bd pc),(2,pt z),(Be z),(11,pt pc)] ⟨w,z+2,[(old (fun b=>b=pc) w),(bk pc #[.slice l.a l.xs.length l.cap,Ae at0,.bool bad] 121),(CW z),(bk (z+1) #[i6 0,i6 0,i6 0,i6 0,.slice none 0 0,.slice none 0 0,.slice none 0 0] 26)]⟩ rfl Ac ?_
 refine l_call [] [] 63 #[pt pc,i6 4] (some 12) Ac ?_
 intro w1 hw1
 refine(Dl (hw1.at (i:=1) rfl) (Bf (fun x _ _ hx hv=>BC hv hx.2 _ (hw1.at (i:=0) rfl)) (fun x hx=>⟨Nat.lt_of_lt_of_le hx.1 (by rw[hw1.size];show w.heap.size≤z+2;omega),hx.2⟩) hl) hB hlen (by omega)).mono ?_
 rintro e w5 ⟨v2,d3,n4,rfl,hstw5,hrxw5,hlaw5,hCw5,hkw5⟩
 obtain⟨hnw5,hSw5⟩:=BR hw1 (i:=1) rfl hCw5 hkw5;have hnw5':z+2≤w5.heap.size:=hnw5
 refine⟨_,_,rfl,hSw5, ?_⟩
 refine Ey 4 1 [] [[o0,(a1 3)],[o0]] [Qb (z+1)] [(Bd pc),(2,pt z),(Be z),(14,pt pc)] ⟨w,w5.heap.size,[(old (fun b=>b=pc) w),(bk pc #[.slice l.a l.xs.length l.cap,Ae n4,.bool d3] 121),(CW z),(bk (z+1) #[i6 v2,i6 0,i6 0,i6 0,.slice none 0 0,.slice none 0 0,.slice none 0 0] 26)]⟩ rfl ⟨rfl,Ac⟩ ?_
 refine l_call [] [] 63 #[pt pc,i6 4] (some 15) Ac ?_
 intro w6 hw6
 refine(Dl (hw6.at (i:=1) rfl) (Bf (fun x _ _ hx hv=>BC hv hx.2 _ (hw6.at (i:=0) rfl)) (fun x hx=>⟨Nat.lt_of_lt_of_le hx.1 (by rw[hw6.size];show w.heap.size≤w5.heap.size;omega),hx.2⟩) hl) hB hlen (by omega)).mono ?_
 rintro e w10 ⟨v7,d8,n9,rfl,hstw10,hrxw10,hlaw10,hCw10,hkw10⟩
 obtain⟨hnw10,hSw10⟩:=BR hw6 (i:=1) rfl hCw10 hkw10;have hnw10':w5.heap.size≤w10.heap.size:=hnw10
 refine⟨_,_,rfl,hSw10, ?_⟩
 refine Ey 4 1 [] [[o0,(a1 3)],[o0]] [Qb (z+1)] [(Bd pc),(2,pt z),(Be z),(17,pt pc)] ⟨w,w10.heap.size,[(old (fun b=>b=pc) w),(bk pc #[.slice l.a l.xs.length l.cap,Ae n9,.bool d8] 121),(CW z),(bk (z+1) #[i6 v2,i6 v7,i6 0,i6 0,.slice none 0 0,.slice none 0 0,.slice none 0 0] 26)]⟩ rfl ⟨rfl,Ac⟩ ?_
 refine l_call [] [] 63 #[pt pc,i6 4] (some 18) Ac ?_
 intro w11 hw11
 refine(Dl (hw11.at (i:=1) rfl) (Bf (fun x _ _ hx hv=>BC hv hx.2 _ (hw11.at (i:=0) rfl)) (fun x hx=>⟨Nat.lt_of_lt_of_le hx.1 (by rw[hw11.size];show w.heap.size≤w10.heap.size;omega),hx.2⟩) hl) hB hlen (by omega)).mono ?_
 rintro e w15 ⟨v12,d13,n14,rfl,hstw15,hrxw15,hlaw15,hCw15,hkw15⟩
 obtain⟨hnw15,hSw15⟩:=BR hw11 (i:=1) rfl hCw15 hkw15;have hnw15':w10.heap.size≤w15.heap.size:=hnw15
 refine⟨_,_,rfl,hSw15, ?_⟩
 refine Ey 4 1 [] [[o0,(a1 3)],[o0]] [Qb (z+1)] [(Bd pc),(2,pt z),(Be z),(20,pt pc)] ⟨w,w15.heap.size,[(old (fun b=>b=pc) w),(bk pc #[.slice l.a l.xs.length l.cap,Ae n14,.bool d13] 121),(CW z),(bk (z+1) #[i6 v2,i6 v7,i6 v12,i6 0,.slice none 0 0,.slice none 0 0,.slice none 0 0] 26)]⟩ rfl ⟨rfl,Ac⟩ ?_
 refine l_call [] [] 63 #[pt pc,i6 4] (some 21) Ac ?_
 intro w16 hw16
 refine(Dl (hw16.at (i:=1) rfl) (Bf (fun x _ _ hx hv=>BC hv hx.2 _ (hw16.at (i:=0) rfl)) (fun x hx=>⟨Nat.lt_of_lt_of_le hx.1 (by rw[hw16.size];show w.heap.size≤w15.heap.size;omega),hx.2⟩) hl) hB hlen (by omega)).mono ?_
 rintro e w20 ⟨v17,d18,n19,rfl,hstw20,hrxw20,hlaw20,hCw20,hkw20⟩
 obtain⟨hnw20,hSw20⟩:=BR hw16 (i:=1) rfl hCw20 hkw20;have hnw20':w15.heap.size≤w20.heap.size:=hnw20
 refine⟨_,_,rfl,hSw20, ?_⟩
 refine Ey 4 1 [] [[o0,(a1 3)],[o0]] [Qb (z+1)] [(Bd pc),(2,pt z),(Be z),(23,pt pc)] ⟨w,w20.heap.size,[(old (fun b=>b=pc) w),(bk pc #[.slice l.a l.xs.length l.cap,Ae n19,.bool d18] 121),(CW z),(bk (z+1) #[i6 v2,i6 v7,i6 v12,i6 v17,.slice none 0 0,.slice none 0 0,.slice none 0 0] 26)]⟩ rfl ⟨rfl,Ac⟩ ?_
 refine l_call [] [] 63 #[pt pc,i6 1] (some 24) Ac ?_
 intro w21 hw21
 refine(Ip (hw21.at (i:=1) rfl) (Bf (fun x _ _ hx hv=>BC hv hx.2 _ (hw21.at (i:=0) rfl)) (fun x hx=>⟨Nat.lt_of_lt_of_le hx.1 (by rw[hw21.size];show w.heap.size≤w20.heap.size;omega),hx.2⟩) hl) hB hlen (by omega)).mono ?_
 rintro e w25 ⟨v22,d23,n24,rfl,hstw25,hrxw25,hlaw25,hCw25,hkw25⟩
 obtain⟨n26,rfl⟩:∃ n:Nat,v22=(n:Int):=⟨_,(Int.toNat_of_nonneg hrxw25.1.1).symm⟩
 obtain⟨hnw25,hSw25⟩:=BR hw21 (i:=1) rfl hCw25 hkw25;have hnw25':w20.heap.size≤w25.heap.size:=hnw25
 refine⟨_,_,rfl,hSw25, ?_⟩
 refine AC 8 0 [] [[o0],[o0]] [] [(Bd pc),(2,pt z),(Be z),(4,Ae n26),(5,i6 0)] rfl Ac ?_
 refine JU z 51 3 Af.cells ?_
 refine FW z 43 1 (fun x:Sl Af=>[Sl.val x]) ?_
 refine Bl (fun m a w'=>∃ (n28:Nat) (i0:Nat) (xs0:List (Sl Af)) (at0:Nat) (bd0:Bool) (aL0:Option Addr) (cL0:Nat),m=n26 - i0∧w25.heap.size≤n28∧(i0≤n26)∧(FH d23 n24 (EZ l.xs (J7 l.xs)) i0 bd0 at0 (xs0.map Sl.xs))∧(xs0.length=i0)∧(at0≤l.xs.length)∧St 95 [(Bd pc),(2,pt z),(Be z),(4,Ae n26),(5,Ae i0)] [] ⟨w,n28,[(old (fun b=>b=pc) w),(bk pc #[.slice l.a l.xs.length l.cap,Ae at0,.bool bd0] 121),(CW z),(TF z v2 v7 v12 v17 aL0 xs0 cL0),(Aq z 51 3 Af.cells xs0),(BP z aL0 xs0 cL0)]⟩ a w') (n26 - 0) ?_ ?_
 ·intro a w' hs;exact⟨w25.heap.size,0,([]),n24,d23,none,0,rfl,Nat.le_refl _,Nat.zero_le _,Jc _ _ _,rfl,by omega,hs⟩
 rintro m a w' ⟨n28,i0,xs0,at0,bd0,aL0,cL0,rfl,hn27,hki0,hm0,hxl0,hal0,hs⟩
 refine(?_:G Try.prog 95 [(Bd pc),(2,pt z),(Be z),(4,Ae n26),(5,Ae i0)] [] ⟨w,n28,[(old (fun b=>b=pc) w),(bk pc #[.slice l.a l.xs.length l.cap,Ae at0,.bool bd0] 121),(CW z),(TF z v2 v7 v12 v17 aL0 xs0 cL0),(Aq z 51 3 Af.cells xs0),(BP z aL0 xs0 cL0)]⟩ _ _ _) a w' hs
 clear hs a w'
 refine Bi <| Bi ?_
 by_cases h29:(i0:Int)<(n26:Int)
 ·cases bd0
  ·refine Aw 8 0 [1] [[o0,o0,oT,o0,o0,o0,o0,(a1 1),o0,o0]] [BT ((i0:Int)<(n26:Int)),Qb pc] [(Bd pc),(2,pt z),(Be z),(4,Ae n26),(5,Ae i0),(34,.bool true)] rfl ⟨bt,rfl,Ac⟩ ?_
   refine D5 7 [0,2,3,4] [(old (fun b=>b=pc) w),(CW z),(TF z v2 v7 v12 v17 aL0 xs0 cL0),(Aq z 51 3 Af.cells xs0)] rfl rfl ?_
   refine Bz [(0,o0),(1,(a1 2)),(2,o0)] [0,2,3,4,5,38,39] [Qb (z+1)] [true,true,true,false,false,false,false,false] [(Bd pc),(2,pt z),(Be z),(4,Ae n26),(5,Ae i0),(38,.slice aL0 xs0.length cL0),(39,pt pc)] ⟨rfl,Ac⟩ ?_
   refine BJ 3 ?_
   refine MC [] [] 77 #[pt pc] (some 40) (by as_aux_lemma=>kernel_rfl) rfl rfl Ac ?_
   intro w30 hw30
   refine(cwins w30 pc l at0 false (hw30.at (i:=1) rfl) (Bf (fun x _ _ hx hv=>BC hv hx.2 _ (hw30.at (i:=0) rfl)) (fun x hx=>⟨Nat.lt_of_lt_of_le hx.1 (by rw[hw30.size];show w.heap.size≤n28;omega),hx.2⟩) hl) hB hlen (by omega)).mono ?_
   rintro e w36 ⟨x31,d32,n33,ax34,cp35,rfl,hstw36,hxlw36,hlaw36,hCw36,hkw36,how36⟩
   obtain⟨hnw36,hSw36⟩:=Yw hw30 (i:=1) rfl hCw36 hkw36 how36 z (show z≤n28 by omega);have hnw36':n28≤w36.heap.size:=hnw36
   have hs37:=hSw36
   refine⟨_,_,rfl,hs37,.inr (fun c hc=>hs37.all c (by first | exact hc | exact BI (is:=[0,2,3,4]) rfl c hc)), ?_⟩
   refine Dx [0,2,3,4,5,38,40] [(Bd pc),(2,pt z),(Be z),(4,Ae n26),(5,Ae i0),(38,.slice aL0 xs0.length cL0),(40,.slice ax34 x31.length cp35)] ?_
   refine BJ 4 ?_
   refine DT o0 [0,2,3,4,5,38,41] [] [(Bd pc),(2,pt z),(Be z),(4,Ae n26),(5,Ae i0),(38,.slice aL0 xs0.length cL0),(41,.slice (some ⟨w36.heap.size,0,none⟩) 1 1)] ⟨w,w36.heap.size+1,[(old (fun b=>b=pc) w),(TA pc l n33 d32),(CW z),(TF z v2 v7 v12 v17 aL0 xs0 cL0),(Aq z 51 3 Af.cells xs0),(BP z aL0 xs0 cL0),(Au z 51 3 Af.cells (.slice ax34 x31.length cp35) x31),(Wp ax34 cp35 x31 w36)]⟩ [0,2,3,4] Ac (.inr rfl) ?_
   refine BJ 5 ?_
   refine Ud z 5 7 xs0 [(⟨ax34,cp35,x31⟩:Sl Af)] (fun x:Sl Af=>[Sl.val x]) 43 1 24 (.slice aL0 xs0.length cL0) w36.heap.size 1 1 #[.slice ax34 x31.length cp35] 43 (0,0) true (some 42) [0,2,3,4] (by simp only[List.length_cons,List.length_nil];omega) (show z≤w36.heap.size+1 by omega) (.inr ⟨rfl,rfl⟩) (fun ax38 cp39 n40 (hn41:w36.heap.size+1≤n40) => ?_)
   refine Dx [0,2,3,4,5,42] [(Bd pc),(2,pt z),(Be z),(4,Ae n26),(5,Ae i0),(42,.slice ax38 ((xs0++[(⟨ax34,cp35,x31⟩:Sl Af)]).length) cp39)] ?_
   refine Bz [(6,o0)] [0,2,3,4,5,42,43] [] (Dh 7 1) [(Bd pc),(2,pt z),(Be z),(4,Ae n26),(5,Ae i0),(42,.slice ax38 ((xs0++[(⟨ax34,cp35,x31⟩:Sl Af)]).length) cp39),(43,.pointer (some ⟨z+1,4,none⟩))] Ac ?_
   refine BJ 7 ?_
   refine DT (a1 3) [0,2,3,4,5] [Qb (z+1)] [(Bd pc),(2,pt z),(Be z),(4,Ae n26),(5,Ae i0)] ⟨w,n40,[(old (fun b=>b=pc) w),(TA pc l n33 d32),(CW z),(XA z v2 v7 v12 v17 xs0 ax38 ax34 cp35 x31 cp39),(Aq z 51 3 Af.cells xs0),(Ws z xs0 ax38 ax34 cp35 x31 cp39),(Au z 51 3 Af.cells (.slice ax34 x31.length cp35) x31),(Wp ax34 cp35 x31 w36)]⟩ [] ⟨rfl,Ac⟩ (.inl rfl) ?_
   refine Ih 8 [0,1,2,3,4,5,6,7] [(old (fun b=>b=pc) w),(TA pc l n33 d32),(CW z),(XA z v2 v7 v12 v17 xs0 ax38 ax34 cp35 x31 cp39),(Aq z 51 3 Af.cells xs0),(Ws z xs0 ax38 ax34 cp35 x31 cp39),(Au z 51 3 Af.cells (.slice ax34 x31.length cp35) x31),(Wp ax34 cp35 x31 w36)] rfl rfl ?_
   refine C9 ?_
   refine Io 4 0 [] [[o0,(ov (i6 ((i0+1:Nat):Int))),o0]] [Wr ((i0:Int)+1) (((i0+1:Nat):Int))] [(Bd pc),(2,pt z),(Be z),(4,Ae n26),(5,i6 ((i0+1:Nat):Int))] rfl ⟨Bq,Ac⟩ ?_
   refine LK 4 6 [0,1,2,3,5,7] [(old (fun b=>b=pc) w),(TA pc l n33 d32),(CW z),(XA z v2 v7 v12 v17 xs0 ax38 ax34 cp35 x31 cp39),(Ws z xs0 ax38 ax34 cp35 x31 cp39),(Wp ax34 cp35 x31 w36)] ?_
   refine CG [0,1,2,3,6,4] [(old (fun b=>b=pc) w),(TA pc l n33 d32),(CW z),(XA z v2 v7 v12 v17 xs0 ax38 ax34 cp35 x31 cp39),(Aq z 51 3 Af.cells (xs0++[⟨ax34,cp35,x31⟩])),(Ws z xs0 ax38 ax34 cp35 x31 cp39)] rfl rfl ?_
   refine Ce [0,2,3,4,5] [(Bd pc),(2,pt z),(Be z),(4,Ae n26),(5,i6 ((i0+1:Nat):Int))] ?_
   refine BB (fun a w' hs=>⟨n26 - (i0+1),by omega,n40,(i0+1),(xs0++[(⟨ax34,cp35,x31⟩:Sl Af)]),n33,d32,ax38,cp39,rfl,by omega,by omega,hm0.moreM (pl:=Sl.xs) hstw36,by rw[List.length_append,hxl0];rfl,by omega,hs⟩)
  refine Aw 10 0 [0] [[o0,o0,oT,o0,o0,o0,o0,(a1 1),o0,o0]] [BT ((i0:Int)<(n26:Int)),Qb pc] [(Bd pc),(2,pt z),(Be z),(4,Ae n26),(5,Ae i0),(34,.bool false)] rfl ⟨bt,rfl,Ac⟩ ?_
  have hst42:=FH.done hstw25 hm0 (.inr ⟨rfl,by omega⟩)
  refine Aw 1 1 [] [[o0]] [] [(Bd pc),(2,pt z),(Be z),(44,pt pc)] rfl Ac ?_
  refine l_call [] [] 63 #[pt pc,i6 1] (some 45) Ac ?_
  intro w43 hw43
  refine(Ip (hw43.at (i:=1) rfl) (Bf (fun x _ _ hx hv=>BC hv hx.2 _ (hw43.at (i:=0) rfl)) (fun x hx=>⟨Nat.lt_of_lt_of_le hx.1 (by rw[hw43.size];show w.heap.size≤n28;omega),hx.2⟩) hl) hB hlen (by omega)).mono ?_
  rintro e w47 ⟨v44,d45,n46,rfl,hstw47,hrxw47,hlaw47,hCw47,hkw47⟩
  obtain⟨n48,rfl⟩:∃ n:Nat,v44=(n:Int):=⟨_,(Int.toNat_of_nonneg hrxw47.1.1).symm⟩
  obtain⟨hnw47,hSw47⟩:=BR hw43 (i:=1) rfl hCw47 hkw47;have hnw47':n28≤w47.heap.size:=hnw47
  refine⟨_,_,rfl,hSw47, ?_⟩
  refine AC 8 0 [] [[o0],[o0]] [] [(Bd pc),(2,pt z),(Be z),(4,Ae n48),(6,i6 0)] rfl Ac ?_
  refine JU z 53 4 Ak.cells ?_
  refine JU z 55 2 Ap.cells ?_
  refine FW z 47 8 Ag.cells ?_
  refine Bl (fun m a w'=>∃ (n50:Nat) (i1:Nat) (xs1:List Ag) (at1:Nat) (bd1:Bool) (aL1:Option Addr) (cL1:Nat),m=n48 - i1∧w47.heap.size≤n50∧(i1≤n48)∧(FH d45 n46 (partAt l.xs) i1 bd1 at1 (xs1.map Ja))∧(xs1.length=i1)∧(at1≤l.xs.length)∧St 95 [(Bd pc),(2,pt z),(Be z),(4,Ae n48),(6,Ae i1)] [] ⟨w,n50,[(old (fun b=>b=pc) w),(QW pc l at1 bd1),(CW z),(NU z v2 v7 v12 v17 aL0 xs0 cL0 xs1 aL1 cL1),(Aq z 51 3 Af.cells xs0),(BP z aL0 xs0 cL0),(CO z xs1),(Cm z xs1),(Dj z xs1 aL1 cL1)]⟩ a w') (n48 - 0) ?_ ?_
  ·intro a w' hs;exact⟨w47.heap.size,0,([]),n46,d45,none,0,rfl,Nat.le_refl _,Nat.zero_le _,Jc _ _ _,rfl,by omega,hs⟩
  rintro m a w' ⟨n50,i1,xs1,at1,bd1,aL1,cL1,rfl,hn49,hki1,hm1,hxl1,hal1,hs⟩
  refine(?_:G Try.prog 95 [(Bd pc),(2,pt z),(Be z),(4,Ae n48),(6,Ae i1)] [] ⟨w,n50,[(old (fun b=>b=pc) w),(QW pc l at1 bd1),(CW z),(NU z v2 v7 v12 v17 aL0 xs0 cL0 xs1 aL1 cL1),(Aq z 51 3 Af.cells xs0),(BP z aL0 xs0 cL0),(CO z xs1),(Cm z xs1),(Dj z xs1 aL1 cL1)]⟩ _ _ _) a w' hs
  clear hs a w'
  refine Bi <| Bi ?_
  by_cases h51:(i1:Int)<(n48:Int)
  ·cases bd1
   ·refine Aw 8 0 [1] [[o0,o0,oT,o0,o0,o0,o0,(a1 1),o0,o0]] [BT ((i1:Int)<(n48:Int)),Qb pc] [(Bd pc),(2,pt z),(Be z),(4,Ae n48),(6,Ae i1),(55,.bool true)] rfl ⟨bt,rfl,Ac⟩ ?_
    refine D5 7 [0,2,3,4,5,6,7] [(old (fun b=>b=pc) w),(CW z),(NU z v2 v7 v12 v17 aL0 xs0 cL0 xs1 aL1 cL1),(Aq z 51 3 Af.cells xs0),(BP z aL0 xs0 cL0),(CO z xs1),(Cm z xs1)] rfl rfl ?_
    refine Bz [(0,o0),(1,(a1 2)),(2,o0)] [0,2,3,4,6,59,60] [Qb (z+1)] [true,true,true,false,false,false,false,false] [(Bd pc),(2,pt z),(Be z),(4,Ae n48),(6,Ae i1),(59,.slice aL1 xs1.length cL1),(60,pt pc)] ⟨rfl,Ac⟩ ?_
    refine BJ 3 ?_
    refine MC [] [] 78 #[pt pc] (some 61) (by as_aux_lemma=>kernel_rfl) rfl rfl Ac ?_
    intro w52 hw52
    refine(cpart w52 pc l at1 false (hw52.at (i:=1) rfl) (Bf (fun x _ _ hx hv=>BC hv hx.2 _ (hw52.at (i:=0) rfl)) (fun x hx=>⟨Nat.lt_of_lt_of_le hx.1 (by rw[hw52.size];show w.heap.size≤n50;omega),hx.2⟩) hl) hB hlen (by omega)).mono ?_
    rintro e w56 ⟨x53,d54,n55,rfl,hstw56,hlaw56,hCw56,hkw56,hMw56⟩
    obtain⟨hnw56,hSw56⟩:=WX hw52 (i:=1) rfl hCw56 hkw56 hMw56 z (show z≤n50 by omega);have hnw56':n50≤w56.heap.size:=hnw56
    have hs57:=hSw56
    refine⟨_,_,rfl,hs57,.inr (fun c hc=>hs57.all c (by first | exact hc | exact BI (is:=[0,2,3,4,5,6,7]) rfl c hc)), ?_⟩
    refine Dx [0,2,3,4,6,59,61] [(Bd pc),(2,pt z),(Be z),(4,Ae n48),(6,Ae i1),(59,.slice aL1 xs1.length cL1),(61,.agg (Ag.arr x53))] ?_
    refine BJ 4 ?_
    refine DT o0 [0,2,3,4,6,59,62] [] [(Bd pc),(2,pt z),(Be z),(4,Ae n48),(6,Ae i1),(59,.slice aL1 xs1.length cL1),(62,.slice (some ⟨w56.heap.size,0,none⟩) 1 1)] ⟨w,w56.heap.size+1,[(old (fun b=>b=pc) w),(PZ pc l n55 d54),(CW z),(NU z v2 v7 v12 v17 aL0 xs0 cL0 xs1 aL1 cL1),(Aq z 51 3 Af.cells xs0),(BP z aL0 xs0 cL0),(CO z xs1),(Cm z xs1),(Dj z xs1 aL1 cL1),(Wj z x53),(TS z x53),(Ur x53 w56)]⟩ [0,2,3,4,5,6,7] Ac (.inr rfl) ?_
    refine BJ 5 ?_
    refine Ud z 8 11 xs1 [(⟨x53.Name,x53.Entry,x53.AP,x53.AA,x53.AQ,x53.AL,(⟨x53.Ad.a,x53.Ad.cap,x53.Ad.xs⟩:Sl Ak),(⟨x53.Ai.a,x53.Ai.cap,x53.Ai.xs⟩:Sl Ap)⟩:Ag)] Ag.cells 47 8 104 (.slice aL1 xs1.length cL1) w56.heap.size 1 1 #[.string x53.Name,i6 x53.Entry,i6 x53.AP,i6 x53.AA,i6 x53.AQ,i6 x53.AL,.slice x53.Ad.a x53.Ad.xs.length x53.Ad.cap,.slice x53.Ai.a x53.Ai.xs.length x53.Ai.cap] 47 (0,0) true (some 63) [0,2,3,4,5,6,7] (by simp only[List.length_cons,List.length_nil];omega) (show z≤w56.heap.size+1 by omega) (.inr ⟨rfl,rfl⟩) (fun ax58 cp59 n60 (hn61:w56.heap.size+1≤n60) => ?_)
    refine Dx [0,2,3,4,6,63] [(Bd pc),(2,pt z),(Be z),(4,Ae n48),(6,Ae i1),(Y7 xs1 ax58 x53 cp59)] ?_
    refine Bz [(6,o0)] [0,2,3,4,6,63,64] [] (Dh 7 1) [(Bd pc),(2,pt z),(Be z),(4,Ae n48),(6,Ae i1),(Y7 xs1 ax58 x53 cp59),(64,.pointer (some ⟨z+1,5,none⟩))] Ac ?_
    refine BJ 7 ?_
    refine DT (a1 3) [0,2,3,4,6] [Qb (z+1)] [(Bd pc),(2,pt z),(Be z),(4,Ae n48),(6,Ae i1)] ⟨w,n60,[(old (fun b=>b=pc) w),(PZ pc l n55 d54),(CW z),(Uf z v2 v7 v12 v17 aL0 xs0 cL0 xs1 ax58 x53 cp59),(Aq z 51 3 Af.cells xs0),(BP z aL0 xs0 cL0),(CO z xs1),(Cm z xs1),(QR z xs1 ax58 x53 cp59),(Wj z x53),(TS z x53),(Ur x53 w56)]⟩ [] ⟨rfl,Ac⟩ (.inl rfl) ?_
    refine Ih 8 [0,1,2,3,4,5,6,7,8,9,10,11] [(old (fun b=>b=pc) w),(PZ pc l n55 d54),(CW z),(Uf z v2 v7 v12 v17 aL0 xs0 cL0 xs1 ax58 x53 cp59),(Aq z 51 3 Af.cells xs0),(BP z aL0 xs0 cL0),(CO z xs1),(Cm z xs1),(QR z xs1 ax58 x53 cp59),(Wj z x53),(TS z x53),(Ur x53 w56)] rfl rfl ?_
    refine C9 ?_
    refine Io 4 0 [] [[o0,(ov (i6 ((i1+1:Nat):Int))),o0]] [Wr ((i1:Int)+1) (((i1+1:Nat):Int))] [(Bd pc),(2,pt z),(Be z),(4,Ae n48),(6,i6 ((i1+1:Nat):Int))] rfl ⟨Bq,Ac⟩ ?_
    refine LK 6 9 [0,1,2,3,4,5,7,8,10,11] [(old (fun b=>b=pc) w),(PZ pc l n55 d54),(CW z),(Uf z v2 v7 v12 v17 aL0 xs0 cL0 xs1 ax58 x53 cp59),(Aq z 51 3 Af.cells xs0),(BP z aL0 xs0 cL0),(Cm z xs1),(QR z xs1 ax58 x53 cp59),(TS z x53),(Ur x53 w56)] ?_
    refine LK 6 8 [0,1,2,3,4,5,7,9,10] [(old (fun b=>b=pc) w),(PZ pc l n55 d54),(CW z),(Uf z v2 v7 v12 v17 aL0 xs0 cL0 xs1 ax58 x53 cp59),(Aq z 51 3 Af.cells xs0),(BP z aL0 xs0 cL0),(QR z xs1 ax58 x53 cp59),(Ur x53 w56),(Aq z 53 4 Ak.cells ((xs1.map Ag.Ad)++[⟨x53.Ad.a,x53.Ad.cap,x53.Ad.xs⟩]))] ?_
    refine CG [0,1,2,3,4,5,8,9,6] [(old (fun b=>b=pc) w),(PZ pc l n55 d54),(CW z),(Uf z v2 v7 v12 v17 aL0 xs0 cL0 xs1 ax58 x53 cp59),(Aq z 51 3 Af.cells xs0),(BP z aL0 xs0 cL0),(Aq z 53 4 Ak.cells ((xs1.map Ag.Ad)++[⟨x53.Ad.a,x53.Ad.cap,x53.Ad.xs⟩])),(Aq z 55 2 Ap.cells ((xs1.map Ag.Ai)++[⟨x53.Ai.a,x53.Ai.cap,x53.Ai.xs⟩])),(QR z xs1 ax58 x53 cp59)] rfl rfl ?_
    refine Ce [0,2,3,4,6] [(Bd pc),(2,pt z),(Be z),(4,Ae n48),(6,i6 ((i1+1:Nat):Int))] ?_
    refine BB (fun a w' hs=>⟨n48 - (i1+1),by omega,n60,(i1+1),(xs1++[(⟨x53.Name,x53.Entry,x53.AP,x53.AA,x53.AQ,x53.AL,(⟨x53.Ad.a,x53.Ad.cap,x53.Ad.xs⟩:Sl Ak),(⟨x53.Ai.a,x53.Ai.cap,x53.Ai.xs⟩:Sl Ap)⟩:Ag)]),n55,d54,ax58,cp59,rfl,by omega,by omega,hm1.moreM (pl:=Ja) hstw56,by rw[List.length_append,hxl1];rfl,by omega,by(try dsimp only[Uf,Ur,NU,TF,CW,QW,PZ,QR,Wj,TS,BP,Dj,CO,Cm,Y7,Be,Bd]at hs ⊢);rw[LH,LH];exact hs⟩)
   refine Aw 10 0 [0] [[o0,o0,oT,o0,o0,o0,o0,(a1 1),o0,o0]] [BT ((i1:Int)<(n48:Int)),Qb pc] [(Bd pc),(2,pt z),(Be z),(4,Ae n48),(6,Ae i1),(55,.bool false)] rfl ⟨bt,rfl,Ac⟩ ?_
   have hst62:=FH.done hstw47 hm1 (.inr ⟨rfl,by omega⟩)
   refine Aw 1 1 [] [[o0]] [] [(Bd pc),(2,pt z),(Be z),(65,pt pc)] rfl Ac ?_
   refine l_call [] [] 63 #[pt pc,i6 1] (some 66) Ac ?_
   intro w63 hw63
   refine(Ip (hw63.at (i:=1) rfl) (Bf (fun x _ _ hx hv=>BC hv hx.2 _ (hw63.at (i:=0) rfl)) (fun x hx=>⟨Nat.lt_of_lt_of_le hx.1 (by rw[hw63.size];show w.heap.size≤n50;omega),hx.2⟩) hl) hB hlen (by omega)).mono ?_
   rintro e w67 ⟨v64,d65,n66,rfl,hstw67,hrxw67,hlaw67,hCw67,hkw67⟩
   obtain⟨n68,rfl⟩:∃ n:Nat,v64=(n:Int):=⟨_,(Int.toNat_of_nonneg hrxw67.1.1).symm⟩
   obtain⟨hnw67,hSw67⟩:=BR hw63 (i:=1) rfl hCw67 hkw67;have hnw67':n50≤w67.heap.size:=hnw67
   refine⟨_,_,rfl,hSw67, ?_⟩
   refine AC 8 0 [] [[o0],[o0]] [] [(Bd pc),(2,pt z),(Be z),(4,Ae n68),(7,i6 0)] rfl Ac ?_
   refine FW z 57 3 Ar.cells ?_
   refine Bl (fun m a w'=>∃ (n70:Nat) (i2:Nat) (xs2:List Ar) (at2:Nat) (bd2:Bool) (aL2:Option Addr) (cL2:Nat),m=n68 - i2∧w67.heap.size≤n70∧(i2≤n68)∧(FH d65 n66 (H9 l.xs) i2 bd2 at2 (xs2))∧(xs2.length=i2)∧(at2≤l.xs.length)∧St 95 [(Bd pc),(2,pt z),(Be z),(4,Ae n68),(7,Ae i2)] [] ⟨w,n70,[(old (fun b=>b=pc) w),(KE pc l at2 bd2),(CW z),(Ii z v2 v7 v12 v17 aL0 xs0 cL0 xs1 aL1 cL1 aL2 xs2 cL2),(Aq z 51 3 Af.cells xs0),(BP z aL0 xs0 cL0),(CO z xs1),(Cm z xs1),(Dj z xs1 aL1 cL1),(EP z aL2 xs2 cL2)]⟩ a w') (n68 - 0) ?_ ?_
   ·intro a w' hs;exact⟨w67.heap.size,0,([]),n66,d65,none,0,rfl,Nat.le_refl _,Nat.zero_le _,Jc _ _ _,rfl,by omega,hs⟩
   rintro m a w' ⟨n70,i2,xs2,at2,bd2,aL2,cL2,rfl,hn69,hki2,hm2,hxl2,hal2,hs⟩
   refine(?_:G Try.prog 95 [(Bd pc),(2,pt z),(Be z),(4,Ae n68),(7,Ae i2)] [] ⟨w,n70,[(old (fun b=>b=pc) w),(KE pc l at2 bd2),(CW z),(Ii z v2 v7 v12 v17 aL0 xs0 cL0 xs1 aL1 cL1 aL2 xs2 cL2),(Aq z 51 3 Af.cells xs0),(BP z aL0 xs0 cL0),(CO z xs1),(Cm z xs1),(Dj z xs1 aL1 cL1),(EP z aL2 xs2 cL2)]⟩ _ _ _) a w' hs
   clear hs a w'
   refine Bi <| Bi ?_
   by_cases h71:(i2:Int)<(n68:Int)
   ·cases bd2
    ·refine Aw 10 1 [1] [[o0,o0,oT,o0,o0,o0,o0,(a1 1),o0,o0],[o0]] [BT ((i2:Int)<(n68:Int)),Qb pc] [(Bd pc),(2,pt z),(Be z),(4,Ae n68),(7,Ae i2),(79,pt pc)] rfl ⟨bt,rfl,Ac⟩ ?_
     refine l_call [] [] 63 #[pt pc,i6 4] (some 80) Ac ?_
     intro w72 hw72
     refine(Dl (hw72.at (i:=1) rfl) (Bf (fun x _ _ hx hv=>BC hv hx.2 _ (hw72.at (i:=0) rfl)) (fun x hx=>⟨Nat.lt_of_lt_of_le hx.1 (by rw[hw72.size];show w.heap.size≤n70;omega),hx.2⟩) hl) hB hlen (by omega)).mono ?_
     rintro e w76 ⟨v73,d74,n75,rfl,hstw76,hrxw76,hlaw76,hCw76,hkw76⟩
     obtain⟨hnw76,hSw76⟩:=BR hw72 (i:=1) rfl hCw76 hkw76;have hnw76':n70≤w76.heap.size:=hnw76
     refine⟨_,_,rfl,hSw76, ?_⟩
     refine AC 4 1 [] [[o0],[o0]] [] [(Bd pc),(2,pt z),(Be z),(4,Ae n68),(7,Ae i2),(8,i6 v73),(81,pt pc)] rfl Ac ?_
     refine l_call [] [] 63 #[pt pc,i6 4] (some 82) Ac ?_
     intro w77 hw77
     refine(Dl (hw77.at (i:=1) rfl) (Bf (fun x _ _ hx hv=>BC hv hx.2 _ (hw77.at (i:=0) rfl)) (fun x hx=>⟨Nat.lt_of_lt_of_le hx.1 (by rw[hw77.size];show w.heap.size≤w76.heap.size;omega),hx.2⟩) hl) hB hlen (by omega)).mono ?_
     rintro e w81 ⟨v78,d79,n80,rfl,hstw81,hrxw81,hlaw81,hCw81,hkw81⟩
     obtain⟨hnw81,hSw81⟩:=BR hw77 (i:=1) rfl hCw81 hkw81;have hnw81':w76.heap.size≤w81.heap.size:=hnw81
     refine⟨_,_,rfl,hSw81, ?_⟩
     refine AC 4 1 [] [[o0],[o0]] [] [(Bd pc),(2,pt z),(Be z),(4,Ae n68),(7,Ae i2),(8,i6 v73),(9,i6 v78),(83,pt pc)] rfl Ac ?_
     refine l_call [] [] 63 #[pt pc,i6 4] (some 84) Ac ?_
     intro w82 hw82
     refine(Dl (hw82.at (i:=1) rfl) (Bf (fun x _ _ hx hv=>BC hv hx.2 _ (hw82.at (i:=0) rfl)) (fun x hx=>⟨Nat.lt_of_lt_of_le hx.1 (by rw[hw82.size];show w.heap.size≤w81.heap.size;omega),hx.2⟩) hl) hB hlen (by omega)).mono ?_
     rintro e w86 ⟨v83,d84,n85,rfl,hstw86,hrxw86,hlaw86,hCw86,hkw86⟩
     obtain⟨hnw86,hSw86⟩:=BR hw82 (i:=1) rfl hCw86 hkw86;have hnw86':w81.heap.size≤w86.heap.size:=hnw86
     refine⟨_,_,rfl,hSw86, ?_⟩
     refine Ey 3 7 [] [[o0],[o0,(a1 3),o0,o0,o0,o0,o0]] [Qb (z+1)] [(Bd pc),(2,pt z),(Be z),(4,Ae n68),(7,Ae i2),(86,.slice aL2 xs2.length cL2),(91,.slice (some ⟨w86.heap.size,0,none⟩) 1 1)] ⟨w,w86.heap.size+1,[(old (fun b=>b=pc) w),(Yu pc l n85 d84),(CW z),(Ii z v2 v7 v12 v17 aL0 xs0 cL0 xs1 aL1 cL1 aL2 xs2 cL2),(Aq z 51 3 Af.cells xs0),(BP z aL0 xs0 cL0),(CO z xs1),(Cm z xs1),(Dj z xs1 aL1 cL1),(EP z aL2 xs2 cL2),(.blk w86.heap.size (.cells #[i6 v73,i6 v78,i6 v83] 57 (0,0)) true)]⟩ rfl ⟨rfl,Ac⟩ ?_
     refine E8 z 9 10 xs2 [(⟨v73,v78,v83⟩:Ar)] Ar.cells 57 3 24 (.slice aL2 xs2.length cL2) w86.heap.size 1 1 #[i6 v73,i6 v78,i6 v83] 57 (0,0) true (some 92) (by simp only[List.length_cons,List.length_nil];omega) (show z≤w86.heap.size+1 by omega) (fun ax87 cp88 n89 (hn90:w86.heap.size+1≤n89) => ?_)
     refine Ey 5 0 [] [[o0,(a1 3)],[o0,(ov (i6 ((i2+1:Nat):Int))),o0]] [Qb (z+1),Wr ((i2:Int)+1) (((i2+1:Nat):Int))] [(Bd pc),(2,pt z),(Be z),(4,Ae n68),(OH i2)] ⟨w,n89,[(old (fun b=>b=pc) w),(Yu pc l n85 d84),(CW z),(bk (z+1) #[i6 v2,i6 v7,i6 v12,i6 v17,.slice aL0 xs0.length cL0,.slice aL1 xs1.length cL1,.slice ax87 ((xs2++[(⟨v73,v78,v83⟩:Ar)]).length) cp88] 26),(Aq z 51 3 Af.cells xs0),(BP z aL0 xs0 cL0),(CO z xs1),(Cm z xs1),(Dj z xs1 aL1 cL1),(Au z 57 3 Ar.cells (.slice ax87 ((xs2++[(⟨v73,v78,v83⟩:Ar)]).length) cp88) (xs2++[(⟨v73,v78,v83⟩:Ar)])),(.blk w86.heap.size (.cells #[i6 v73,i6 v78,i6 v83] 57 (0,0)) true)]⟩ rfl ⟨rfl,Bq,Ac⟩ ?_
     refine CG [0,1,2,3,4,5,6,7,8,9] [(old (fun b=>b=pc) w),(Yu pc l n85 d84),(CW z),(bk (z+1) #[i6 v2,i6 v7,i6 v12,i6 v17,.slice aL0 xs0.length cL0,.slice aL1 xs1.length cL1,.slice ax87 ((xs2++[(⟨v73,v78,v83⟩:Ar)]).length) cp88] 26),(Aq z 51 3 Af.cells xs0),(BP z aL0 xs0 cL0),(CO z xs1),(Cm z xs1),(Dj z xs1 aL1 cL1),(Au z 57 3 Ar.cells (.slice ax87 ((xs2++[(⟨v73,v78,v83⟩:Ar)]).length) cp88) (xs2++[(⟨v73,v78,v83⟩:Ar)]))] rfl rfl ?_
     refine Ce [0,2,3,4,7] [(Bd pc),(2,pt z),(Be z),(4,Ae n68),(OH i2)] ?_
     refine BB (fun a w' hs=>⟨n68 - (i2+1),by omega,n89,(i2+1),(xs2++[(⟨v73,v78,v83⟩:Ar)]),n85,d84,ax87,cp88,rfl,by omega,by omega,hm2.more (by unfold H9;exact hstw76.bind (hstw81.bind (hstw86.map))),by rw[List.length_append,hxl2];rfl,by omega,hs⟩)
    refine Aw 10 0 [0] [[o0,o0,oT,o0,o0,o0,o0,(a1 1),o0,o0]] [BT ((i2:Int)<(n68:Int)),Qb pc] [(Bd pc),(2,pt z),(Be z),(4,Ae n68),(7,Ae i2),(76,.bool false)] rfl ⟨bt,rfl,Ac⟩ ?_
    have hst91:=FH.done hstw67 hm2 (.inr ⟨rfl,by omega⟩)
    refine q_c 4 0 [] [[(an 7 3),(an 7 2)]] [Qb (z+1),Qb (z+1),Qb (z+1),Qb (z+1),Qb (z+1),Qb (z+1),Qb (z+1),Qb z,Qb z,Qb z,Qb z,Qb z,Qb z,Qb z] [(2,pt z)] ⟨w,n70,[(old (fun b=>b=pc) w),(Wh pc l at2),(Qm z v2 v7 v12 v17 aL0 xs0 cL0 xs1 aL1 cL1 aL2 xs2 cL2),(Ii z v2 v7 v12 v17 aL0 xs0 cL0 xs1 aL1 cL1 aL2 xs2 cL2),(Aq z 51 3 Af.cells xs0),(BP z aL0 xs0 cL0),(CO z xs1),(Cm z xs1),(Dj z xs1 aL1 cL1),(EP z aL2 xs2 cL2)]⟩ rfl ⟨rfl,rfl,rfl,rfl,rfl,rfl,rfl,rfl,rfl,rfl,rfl,rfl,rfl,rfl,Ac⟩ ?_
    refine AU [.at 2,.at 2,.at 2,.at 2,.at 2,.at 2,.at 2] [Qb z,Qb z,Qb z,Qb z,Qb z,Qb z,Qb z] (.agg #[i6 v2,i6 v7,i6 v12,i6 v17,.slice aL0 xs0.length cL0,.slice aL1 xs1.length cL1,.slice aL2 xs2.length cL2]) ⟨rfl,rfl,rfl,rfl,rfl,rfl,rfl,Ac⟩ ?_
    intro w92 hw92
    exact⟨(⟨v2,v7,v12,v17,⟨aL0,cL0,xs0⟩,⟨aL1,cL1,xs1⟩,⟨aL2,cL2,xs2⟩⟩:Am),_,_,rfl,(by unfold Eg;exact hstw5.bind (hstw10.bind (hstw15.bind (hstw20.bind (hst42.bind (hst62.bind (hst91.map))))))),by omega,hw92.at (i:=1) rfl,A7 hw92,IR (fs:=HY (⟨v2,v7,v12,v17,⟨aL0,cL0,xs0⟩,⟨aL1,cL1,xs1⟩,⟨aL2,cL2,xs2⟩⟩:Am)) (JW (⟨v2,v7,v12,v17,⟨aL0,cL0,xs0⟩,⟨aL1,cL1,xs1⟩,⟨aL2,cL2,xs2⟩⟩:Am)) (by have hP:=hw92.pick [5,4,8,6,7,9] (σ':=[(BP z aL0 xs0 cL0),(Aq z 51 3 Af.cells xs0),(Dj z xs1 aL1 cL1),(CO z xs1),(Cm z xs1),(EP z aL2 xs2 cL2)]) rfl rfl;rw[hw92.size];exact hz ▸ hP)⟩
   refine Aw 10 0 [0] [[o0,o0,oF,o0,o0]] [BF ((i2:Int)<(n68:Int))] [(Bd pc),(2,pt z),(Be z),(4,Ae n68),(7,Ae i2),(76,.bool false)] rfl ⟨bf,Ac⟩ ?_
   have hst93:=FH.done hstw67 hm2 (.inl (by omega))
   refine q_c 4 0 [] [[(an 7 3),(an 7 2)]] [Qb (z+1),Qb (z+1),Qb (z+1),Qb (z+1),Qb (z+1),Qb (z+1),Qb (z+1),Qb z,Qb z,Qb z,Qb z,Qb z,Qb z,Qb z] [(2,pt z)] ⟨w,n70,[(old (fun b=>b=pc) w),(KE pc l at2 bd2),(Qm z v2 v7 v12 v17 aL0 xs0 cL0 xs1 aL1 cL1 aL2 xs2 cL2),(Ii z v2 v7 v12 v17 aL0 xs0 cL0 xs1 aL1 cL1 aL2 xs2 cL2),(Aq z 51 3 Af.cells xs0),(BP z aL0 xs0 cL0),(CO z xs1),(Cm z xs1),(Dj z xs1 aL1 cL1),(EP z aL2 xs2 cL2)]⟩ rfl ⟨rfl,rfl,rfl,rfl,rfl,rfl,rfl,rfl,rfl,rfl,rfl,rfl,rfl,rfl,Ac⟩ ?_
   refine AU [.at 2,.at 2,.at 2,.at 2,.at 2,.at 2,.at 2] [Qb z,Qb z,Qb z,Qb z,Qb z,Qb z,Qb z] (.agg #[i6 v2,i6 v7,i6 v12,i6 v17,.slice aL0 xs0.length cL0,.slice aL1 xs1.length cL1,.slice aL2 xs2.length cL2]) ⟨rfl,rfl,rfl,rfl,rfl,rfl,rfl,Ac⟩ ?_
   intro w94 hw94
   exact⟨(⟨v2,v7,v12,v17,⟨aL0,cL0,xs0⟩,⟨aL1,cL1,xs1⟩,⟨aL2,cL2,xs2⟩⟩:Am),_,_,rfl,(by unfold Eg;exact hstw5.bind (hstw10.bind (hstw15.bind (hstw20.bind (hst42.bind (hst62.bind (hst93.map))))))),by omega,hw94.at (i:=1) rfl,A7 hw94,IR (fs:=HY (⟨v2,v7,v12,v17,⟨aL0,cL0,xs0⟩,⟨aL1,cL1,xs1⟩,⟨aL2,cL2,xs2⟩⟩:Am)) (JW (⟨v2,v7,v12,v17,⟨aL0,cL0,xs0⟩,⟨aL1,cL1,xs1⟩,⟨aL2,cL2,xs2⟩⟩:Am)) (by have hP:=hw94.pick [5,4,8,6,7,9] (σ':=[(BP z aL0 xs0 cL0),(Aq z 51 3 Af.cells xs0),(Dj z xs1 aL1 cL1),(CO z xs1),(Cm z xs1),(EP z aL2 xs2 cL2)]) rfl rfl;rw[hw94.size];exact hz ▸ hP)⟩
  refine Aw 10 0 [0] [[o0,o0,oF,o0,o0]] [BF ((i1:Int)<(n48:Int))] [(Bd pc),(2,pt z),(Be z),(4,Ae n48),(6,Ae i1),(55,.bool false)] rfl ⟨bf,Ac⟩ ?_
  have hst95:=FH.done hstw47 hm1 (.inl (by omega))
  refine Aw 1 1 [] [[o0]] [] [(Bd pc),(2,pt z),(Be z),(65,pt pc)] rfl Ac ?_
  refine l_call [] [] 63 #[pt pc,i6 1] (some 66) Ac ?_
  intro w96 hw96
  refine(Ip (hw96.at (i:=1) rfl) (Bf (fun x _ _ hx hv=>BC hv hx.2 _ (hw96.at (i:=0) rfl)) (fun x hx=>⟨Nat.lt_of_lt_of_le hx.1 (by rw[hw96.size];show w.heap.size≤n50;omega),hx.2⟩) hl) hB hlen (by omega)).mono ?_
  rintro e w100 ⟨v97,d98,n99,rfl,hstw100,hrxw100,hlaw100,hCw100,hkw100⟩
  obtain⟨n101,rfl⟩:∃ n:Nat,v97=(n:Int):=⟨_,(Int.toNat_of_nonneg hrxw100.1.1).symm⟩
  obtain⟨hnw100,hSw100⟩:=BR hw96 (i:=1) rfl hCw100 hkw100;have hnw100':n50≤w100.heap.size:=hnw100
  refine⟨_,_,rfl,hSw100, ?_⟩
  refine AC 8 0 [] [[o0],[o0]] [] [(Bd pc),(2,pt z),(Be z),(4,Ae n101),(7,i6 0)] rfl Ac ?_
  refine FW z 57 3 Ar.cells ?_
  refine Bl (fun m a w'=>∃ (n103:Nat) (i2:Nat) (xs2:List Ar) (at2:Nat) (bd2:Bool) (aL2:Option Addr) (cL2:Nat),m=n101 - i2∧w100.heap.size≤n103∧(i2≤n101)∧(FH d98 n99 (H9 l.xs) i2 bd2 at2 (xs2))∧(xs2.length=i2)∧(at2≤l.xs.length)∧St 95 [(Bd pc),(2,pt z),(Be z),(4,Ae n101),(7,Ae i2)] [] ⟨w,n103,[(old (fun b=>b=pc) w),(KE pc l at2 bd2),(CW z),(Ii z v2 v7 v12 v17 aL0 xs0 cL0 xs1 aL1 cL1 aL2 xs2 cL2),(Aq z 51 3 Af.cells xs0),(BP z aL0 xs0 cL0),(CO z xs1),(Cm z xs1),(Dj z xs1 aL1 cL1),(EP z aL2 xs2 cL2)]⟩ a w') (n101 - 0) ?_ ?_
  ·intro a w' hs;exact⟨w100.heap.size,0,([]),n99,d98,none,0,rfl,Nat.le_refl _,Nat.zero_le _,Jc _ _ _,rfl,by omega,hs⟩
  rintro m a w' ⟨n103,i2,xs2,at2,bd2,aL2,cL2,rfl,hn102,hki2,hm2,hxl2,hal2,hs⟩
  refine(?_:G Try.prog 95 [(Bd pc),(2,pt z),(Be z),(4,Ae n101),(7,Ae i2)] [] ⟨w,n103,[(old (fun b=>b=pc) w),(KE pc l at2 bd2),(CW z),(Ii z v2 v7 v12 v17 aL0 xs0 cL0 xs1 aL1 cL1 aL2 xs2 cL2),(Aq z 51 3 Af.cells xs0),(BP z aL0 xs0 cL0),(CO z xs1),(Cm z xs1),(Dj z xs1 aL1 cL1),(EP z aL2 xs2 cL2)]⟩ _ _ _) a w' hs
  clear hs a w'
  refine Bi <| Bi ?_
  by_cases h104:(i2:Int)<(n101:Int)
  ·cases bd2
   ·refine Aw 10 1 [1] [[o0,o0,oT,o0,o0,o0,o0,(a1 1),o0,o0],[o0]] [BT ((i2:Int)<(n101:Int)),Qb pc] [(Bd pc),(2,pt z),(Be z),(4,Ae n101),(7,Ae i2),(79,pt pc)] rfl ⟨bt,rfl,Ac⟩ ?_
    refine l_call [] [] 63 #[pt pc,i6 4] (some 80) Ac ?_
    intro w105 hw105
    refine(Dl (hw105.at (i:=1) rfl) (Bf (fun x _ _ hx hv=>BC hv hx.2 _ (hw105.at (i:=0) rfl)) (fun x hx=>⟨Nat.lt_of_lt_of_le hx.1 (by rw[hw105.size];show w.heap.size≤n103;omega),hx.2⟩) hl) hB hlen (by omega)).mono ?_
    rintro e w109 ⟨v106,d107,n108,rfl,hstw109,hrxw109,hlaw109,hCw109,hkw109⟩
    obtain⟨hnw109,hSw109⟩:=BR hw105 (i:=1) rfl hCw109 hkw109;have hnw109':n103≤w109.heap.size:=hnw109
    refine⟨_,_,rfl,hSw109, ?_⟩
    refine AC 4 1 [] [[o0],[o0]] [] [(Bd pc),(2,pt z),(Be z),(4,Ae n101),(7,Ae i2),(8,i6 v106),(81,pt pc)] rfl Ac ?_
    refine l_call [] [] 63 #[pt pc,i6 4] (some 82) Ac ?_
    intro w110 hw110
    refine(Dl (hw110.at (i:=1) rfl) (Bf (fun x _ _ hx hv=>BC hv hx.2 _ (hw110.at (i:=0) rfl)) (fun x hx=>⟨Nat.lt_of_lt_of_le hx.1 (by rw[hw110.size];show w.heap.size≤w109.heap.size;omega),hx.2⟩) hl) hB hlen (by omega)).mono ?_
    rintro e w114 ⟨v111,d112,n113,rfl,hstw114,hrxw114,hlaw114,hCw114,hkw114⟩
    obtain⟨hnw114,hSw114⟩:=BR hw110 (i:=1) rfl hCw114 hkw114;have hnw114':w109.heap.size≤w114.heap.size:=hnw114
    refine⟨_,_,rfl,hSw114, ?_⟩
    refine AC 4 1 [] [[o0],[o0]] [] [(Bd pc),(2,pt z),(Be z),(4,Ae n101),(7,Ae i2),(8,i6 v106),(9,i6 v111),(83,pt pc)] rfl Ac ?_
    refine l_call [] [] 63 #[pt pc,i6 4] (some 84) Ac ?_
    intro w115 hw115
    refine(Dl (hw115.at (i:=1) rfl) (Bf (fun x _ _ hx hv=>BC hv hx.2 _ (hw115.at (i:=0) rfl)) (fun x hx=>⟨Nat.lt_of_lt_of_le hx.1 (by rw[hw115.size];show w.heap.size≤w114.heap.size;omega),hx.2⟩) hl) hB hlen (by omega)).mono ?_
    rintro e w119 ⟨v116,d117,n118,rfl,hstw119,hrxw119,hlaw119,hCw119,hkw119⟩
    obtain⟨hnw119,hSw119⟩:=BR hw115 (i:=1) rfl hCw119 hkw119;have hnw119':w114.heap.size≤w119.heap.size:=hnw119
    refine⟨_,_,rfl,hSw119, ?_⟩
    refine Ey 3 7 [] [[o0],[o0,(a1 3),o0,o0,o0,o0,o0]] [Qb (z+1)] [(Bd pc),(2,pt z),(Be z),(4,Ae n101),(7,Ae i2),(86,.slice aL2 xs2.length cL2),(91,.slice (some ⟨w119.heap.size,0,none⟩) 1 1)] ⟨w,w119.heap.size+1,[(old (fun b=>b=pc) w),(YF pc l n118 d117),(CW z),(Ii z v2 v7 v12 v17 aL0 xs0 cL0 xs1 aL1 cL1 aL2 xs2 cL2),(Aq z 51 3 Af.cells xs0),(BP z aL0 xs0 cL0),(CO z xs1),(Cm z xs1),(Dj z xs1 aL1 cL1),(EP z aL2 xs2 cL2),(.blk w119.heap.size (.cells #[i6 v106,i6 v111,i6 v116] 57 (0,0)) true)]⟩ rfl ⟨rfl,Ac⟩ ?_
    refine E8 z 9 10 xs2 [(⟨v106,v111,v116⟩:Ar)] Ar.cells 57 3 24 (.slice aL2 xs2.length cL2) w119.heap.size 1 1 #[i6 v106,i6 v111,i6 v116] 57 (0,0) true (some 92) (by simp only[List.length_cons,List.length_nil];omega) (show z≤w119.heap.size+1 by omega) (fun ax120 cp121 n122 (hn123:w119.heap.size+1≤n122) => ?_)
    refine Ey 5 0 [] [[o0,(a1 3)],[o0,(ov (i6 ((i2+1:Nat):Int))),o0]] [Qb (z+1),Wr ((i2:Int)+1) (((i2+1:Nat):Int))] [(Bd pc),(2,pt z),(Be z),(4,Ae n101),(OH i2)] ⟨w,n122,[(old (fun b=>b=pc) w),(YF pc l n118 d117),(CW z),(bk (z+1) #[i6 v2,i6 v7,i6 v12,i6 v17,.slice aL0 xs0.length cL0,.slice aL1 xs1.length cL1,.slice ax120 ((xs2++[(⟨v106,v111,v116⟩:Ar)]).length) cp121] 26),(Aq z 51 3 Af.cells xs0),(BP z aL0 xs0 cL0),(CO z xs1),(Cm z xs1),(Dj z xs1 aL1 cL1),(Au z 57 3 Ar.cells (.slice ax120 ((xs2++[(⟨v106,v111,v116⟩:Ar)]).length) cp121) (xs2++[(⟨v106,v111,v116⟩:Ar)])),(.blk w119.heap.size (.cells #[i6 v106,i6 v111,i6 v116] 57 (0,0)) true)]⟩ rfl ⟨rfl,Bq,Ac⟩ ?_
    refine CG [0,1,2,3,4,5,6,7,8,9] [(old (fun b=>b=pc) w),(YF pc l n118 d117),(CW z),(bk (z+1) #[i6 v2,i6 v7,i6 v12,i6 v17,.slice aL0 xs0.length cL0,.slice aL1 xs1.length cL1,.slice ax120 ((xs2++[(⟨v106,v111,v116⟩:Ar)]).length) cp121] 26),(Aq z 51 3 Af.cells xs0),(BP z aL0 xs0 cL0),(CO z xs1),(Cm z xs1),(Dj z xs1 aL1 cL1),(Au z 57 3 Ar.cells (.slice ax120 ((xs2++[(⟨v106,v111,v116⟩:Ar)]).length) cp121) (xs2++[(⟨v106,v111,v116⟩:Ar)]))] rfl rfl ?_
    refine Ce [0,2,3,4,7] [(Bd pc),(2,pt z),(Be z),(4,Ae n101),(OH i2)] ?_
    refine BB (fun a w' hs=>⟨n101 - (i2+1),by omega,n122,(i2+1),(xs2++[(⟨v106,v111,v116⟩:Ar)]),n118,d117,ax120,cp121,rfl,by omega,by omega,hm2.more (by unfold H9;exact hstw109.bind (hstw114.bind (hstw119.map))),by rw[List.length_append,hxl2];rfl,by omega,hs⟩)
   refine Aw 10 0 [0] [[o0,o0,oT,o0,o0,o0,o0,(a1 1),o0,o0]] [BT ((i2:Int)<(n101:Int)),Qb pc] [(Bd pc),(2,pt z),(Be z),(4,Ae n101),(7,Ae i2),(76,.bool false)] rfl ⟨bt,rfl,Ac⟩ ?_
   have hst124:=FH.done hstw100 hm2 (.inr ⟨rfl,by omega⟩)
   refine q_c 4 0 [] [[(an 7 3),(an 7 2)]] [Qb (z+1),Qb (z+1),Qb (z+1),Qb (z+1),Qb (z+1),Qb (z+1),Qb (z+1),Qb z,Qb z,Qb z,Qb z,Qb z,Qb z,Qb z] [(2,pt z)] ⟨w,n103,[(old (fun b=>b=pc) w),(Wh pc l at2),(Qm z v2 v7 v12 v17 aL0 xs0 cL0 xs1 aL1 cL1 aL2 xs2 cL2),(Ii z v2 v7 v12 v17 aL0 xs0 cL0 xs1 aL1 cL1 aL2 xs2 cL2),(Aq z 51 3 Af.cells xs0),(BP z aL0 xs0 cL0),(CO z xs1),(Cm z xs1),(Dj z xs1 aL1 cL1),(EP z aL2 xs2 cL2)]⟩ rfl ⟨rfl,rfl,rfl,rfl,rfl,rfl,rfl,rfl,rfl,rfl,rfl,rfl,rfl,rfl,Ac⟩ ?_
   refine AU [.at 2,.at 2,.at 2,.at 2,.at 2,.at 2,.at 2] [Qb z,Qb z,Qb z,Qb z,Qb z,Qb z,Qb z] (.agg #[i6 v2,i6 v7,i6 v12,i6 v17,.slice aL0 xs0.length cL0,.slice aL1 xs1.length cL1,.slice aL2 xs2.length cL2]) ⟨rfl,rfl,rfl,rfl,rfl,rfl,rfl,Ac⟩ ?_
   intro w125 hw125
   exact⟨(⟨v2,v7,v12,v17,⟨aL0,cL0,xs0⟩,⟨aL1,cL1,xs1⟩,⟨aL2,cL2,xs2⟩⟩:Am),_,_,rfl,(by unfold Eg;exact hstw5.bind (hstw10.bind (hstw15.bind (hstw20.bind (hst42.bind (hst95.bind (hst124.map))))))),by omega,hw125.at (i:=1) rfl,A7 hw125,IR (fs:=HY (⟨v2,v7,v12,v17,⟨aL0,cL0,xs0⟩,⟨aL1,cL1,xs1⟩,⟨aL2,cL2,xs2⟩⟩:Am)) (JW (⟨v2,v7,v12,v17,⟨aL0,cL0,xs0⟩,⟨aL1,cL1,xs1⟩,⟨aL2,cL2,xs2⟩⟩:Am)) (by have hP:=hw125.pick [5,4,8,6,7,9] (σ':=[(BP z aL0 xs0 cL0),(Aq z 51 3 Af.cells xs0),(Dj z xs1 aL1 cL1),(CO z xs1),(Cm z xs1),(EP z aL2 xs2 cL2)]) rfl rfl;rw[hw125.size];exact hz ▸ hP)⟩
  refine Aw 10 0 [0] [[o0,o0,oF,o0,o0]] [BF ((i2:Int)<(n101:Int))] [(Bd pc),(2,pt z),(Be z),(4,Ae n101),(7,Ae i2),(76,.bool false)] rfl ⟨bf,Ac⟩ ?_
  have hst126:=FH.done hstw100 hm2 (.inl (by omega))
  refine q_c 4 0 [] [[(an 7 3),(an 7 2)]] [Qb (z+1),Qb (z+1),Qb (z+1),Qb (z+1),Qb (z+1),Qb (z+1),Qb (z+1),Qb z,Qb z,Qb z,Qb z,Qb z,Qb z,Qb z] [(2,pt z)] ⟨w,n103,[(old (fun b=>b=pc) w),(KE pc l at2 bd2),(Qm z v2 v7 v12 v17 aL0 xs0 cL0 xs1 aL1 cL1 aL2 xs2 cL2),(Ii z v2 v7 v12 v17 aL0 xs0 cL0 xs1 aL1 cL1 aL2 xs2 cL2),(Aq z 51 3 Af.cells xs0),(BP z aL0 xs0 cL0),(CO z xs1),(Cm z xs1),(Dj z xs1 aL1 cL1),(EP z aL2 xs2 cL2)]⟩ rfl ⟨rfl,rfl,rfl,rfl,rfl,rfl,rfl,rfl,rfl,rfl,rfl,rfl,rfl,rfl,Ac⟩ ?_
  refine AU [.at 2,.at 2,.at 2,.at 2,.at 2,.at 2,.at 2] [Qb z,Qb z,Qb z,Qb z,Qb z,Qb z,Qb z] (.agg #[i6 v2,i6 v7,i6 v12,i6 v17,.slice aL0 xs0.length cL0,.slice aL1 xs1.length cL1,.slice aL2 xs2.length cL2]) ⟨rfl,rfl,rfl,rfl,rfl,rfl,rfl,Ac⟩ ?_
  intro w127 hw127
  exact⟨(⟨v2,v7,v12,v17,⟨aL0,cL0,xs0⟩,⟨aL1,cL1,xs1⟩,⟨aL2,cL2,xs2⟩⟩:Am),_,_,rfl,(by unfold Eg;exact hstw5.bind (hstw10.bind (hstw15.bind (hstw20.bind (hst42.bind (hst95.bind (hst126.map))))))),by omega,hw127.at (i:=1) rfl,A7 hw127,IR (fs:=HY (⟨v2,v7,v12,v17,⟨aL0,cL0,xs0⟩,⟨aL1,cL1,xs1⟩,⟨aL2,cL2,xs2⟩⟩:Am)) (JW (⟨v2,v7,v12,v17,⟨aL0,cL0,xs0⟩,⟨aL1,cL1,xs1⟩,⟨aL2,cL2,xs2⟩⟩:Am)) (by have hP:=hw127.pick [5,4,8,6,7,9] (σ':=[(BP z aL0 xs0 cL0),(Aq z 51 3 Af.cells xs0),(Dj z xs1 aL1 cL1),(CO z xs1),(Cm z xs1),(EP z aL2 xs2 cL2)]) rfl rfl;rw[hw127.size];exact hz ▸ hP)⟩
 refine Aw 10 0 [0] [[o0,o0,oF,o0,o0]] [BF ((i0:Int)<(n26:Int))] [(Bd pc),(2,pt z),(Be z),(4,Ae n26),(5,Ae i0),(34,.bool false)] rfl ⟨bf,Ac⟩ ?_
 have hst128:=FH.done hstw25 hm0 (.inl (by omega))
 refine Aw 1 1 [] [[o0]] [] [(Bd pc),(2,pt z),(Be z),(44,pt pc)] rfl Ac ?_
 refine l_call [] [] 63 #[pt pc,i6 1] (some 45) Ac ?_
 intro w129 hw129
 refine(Ip (hw129.at (i:=1) rfl) (Bf (fun x _ _ hx hv=>BC hv hx.2 _ (hw129.at (i:=0) rfl)) (fun x hx=>⟨Nat.lt_of_lt_of_le hx.1 (by rw[hw129.size];show w.heap.size≤n28;omega),hx.2⟩) hl) hB hlen (by omega)).mono ?_
 rintro e w133 ⟨v130,d131,n132,rfl,hstw133,hrxw133,hlaw133,hCw133,hkw133⟩
 obtain⟨n134,rfl⟩:∃ n:Nat,v130=(n:Int):=⟨_,(Int.toNat_of_nonneg hrxw133.1.1).symm⟩
 obtain⟨hnw133,hSw133⟩:=BR hw129 (i:=1) rfl hCw133 hkw133;have hnw133':n28≤w133.heap.size:=hnw133
 refine⟨_,_,rfl,hSw133, ?_⟩
 refine AC 8 0 [] [[o0],[o0]] [] [(Bd pc),(2,pt z),(Be z),(4,Ae n134),(6,i6 0)] rfl Ac ?_
 refine JU z 53 4 Ak.cells ?_
 refine JU z 55 2 Ap.cells ?_
 refine FW z 47 8 Ag.cells ?_
 refine Bl (fun m a w'=>∃ (n136:Nat) (i1:Nat) (xs1:List Ag) (at1:Nat) (bd1:Bool) (aL1:Option Addr) (cL1:Nat),m=n134 - i1∧w133.heap.size≤n136∧(i1≤n134)∧(FH d131 n132 (partAt l.xs) i1 bd1 at1 (xs1.map Ja))∧(xs1.length=i1)∧(at1≤l.xs.length)∧St 95 [(Bd pc),(2,pt z),(Be z),(4,Ae n134),(6,Ae i1)] [] ⟨w,n136,[(old (fun b=>b=pc) w),(QW pc l at1 bd1),(CW z),(NU z v2 v7 v12 v17 aL0 xs0 cL0 xs1 aL1 cL1),(Aq z 51 3 Af.cells xs0),(BP z aL0 xs0 cL0),(CO z xs1),(Cm z xs1),(Dj z xs1 aL1 cL1)]⟩ a w') (n134 - 0) ?_ ?_
 ·intro a w' hs;exact⟨w133.heap.size,0,([]),n132,d131,none,0,rfl,Nat.le_refl _,Nat.zero_le _,Jc _ _ _,rfl,by omega,hs⟩
 rintro m a w' ⟨n136,i1,xs1,at1,bd1,aL1,cL1,rfl,hn135,hki1,hm1,hxl1,hal1,hs⟩
 refine(?_:G Try.prog 95 [(Bd pc),(2,pt z),(Be z),(4,Ae n134),(6,Ae i1)] [] ⟨w,n136,[(old (fun b=>b=pc) w),(QW pc l at1 bd1),(CW z),(NU z v2 v7 v12 v17 aL0 xs0 cL0 xs1 aL1 cL1),(Aq z 51 3 Af.cells xs0),(BP z aL0 xs0 cL0),(CO z xs1),(Cm z xs1),(Dj z xs1 aL1 cL1)]⟩ _ _ _) a w' hs
 clear hs a w'
 refine Bi <| Bi ?_
 by_cases h137:(i1:Int)<(n134:Int)
 ·cases bd1
  ·refine Aw 8 0 [1] [[o0,o0,oT,o0,o0,o0,o0,(a1 1),o0,o0]] [BT ((i1:Int)<(n134:Int)),Qb pc] [(Bd pc),(2,pt z),(Be z),(4,Ae n134),(6,Ae i1),(55,.bool true)] rfl ⟨bt,rfl,Ac⟩ ?_
   refine D5 7 [0,2,3,4,5,6,7] [(old (fun b=>b=pc) w),(CW z),(NU z v2 v7 v12 v17 aL0 xs0 cL0 xs1 aL1 cL1),(Aq z 51 3 Af.cells xs0),(BP z aL0 xs0 cL0),(CO z xs1),(Cm z xs1)] rfl rfl ?_
   refine Bz [(0,o0),(1,(a1 2)),(2,o0)] [0,2,3,4,6,59,60] [Qb (z+1)] [true,true,true,false,false,false,false,false] [(Bd pc),(2,pt z),(Be z),(4,Ae n134),(6,Ae i1),(59,.slice aL1 xs1.length cL1),(60,pt pc)] ⟨rfl,Ac⟩ ?_
   refine BJ 3 ?_
   refine MC [] [] 78 #[pt pc] (some 61) (by as_aux_lemma=>kernel_rfl) rfl rfl Ac ?_
   intro w138 hw138
   refine(cpart w138 pc l at1 false (hw138.at (i:=1) rfl) (Bf (fun x _ _ hx hv=>BC hv hx.2 _ (hw138.at (i:=0) rfl)) (fun x hx=>⟨Nat.lt_of_lt_of_le hx.1 (by rw[hw138.size];show w.heap.size≤n136;omega),hx.2⟩) hl) hB hlen (by omega)).mono ?_
   rintro e w142 ⟨x139,d140,n141,rfl,hstw142,hlaw142,hCw142,hkw142,hMw142⟩
   obtain⟨hnw142,hSw142⟩:=WX hw138 (i:=1) rfl hCw142 hkw142 hMw142 z (show z≤n136 by omega);have hnw142':n136≤w142.heap.size:=hnw142
   have hs143:=hSw142
   refine⟨_,_,rfl,hs143,.inr (fun c hc=>hs143.all c (by first | exact hc | exact BI (is:=[0,2,3,4,5,6,7]) rfl c hc)), ?_⟩
   refine Dx [0,2,3,4,6,59,61] [(Bd pc),(2,pt z),(Be z),(4,Ae n134),(6,Ae i1),(59,.slice aL1 xs1.length cL1),(61,.agg (Ag.arr x139))] ?_
   refine BJ 4 ?_
   refine DT o0 [0,2,3,4,6,59,62] [] [(Bd pc),(2,pt z),(Be z),(4,Ae n134),(6,Ae i1),(59,.slice aL1 xs1.length cL1),(62,.slice (some ⟨w142.heap.size,0,none⟩) 1 1)] ⟨w,w142.heap.size+1,[(old (fun b=>b=pc) w),(PW pc l n141 d140),(CW z),(NU z v2 v7 v12 v17 aL0 xs0 cL0 xs1 aL1 cL1),(Aq z 51 3 Af.cells xs0),(BP z aL0 xs0 cL0),(CO z xs1),(Cm z xs1),(Dj z xs1 aL1 cL1),(VT z x139),(TB z x139),(TQ x139 w142)]⟩ [0,2,3,4,5,6,7] Ac (.inr rfl) ?_
   refine BJ 5 ?_
   refine Ud z 8 11 xs1 [(⟨x139.Name,x139.Entry,x139.AP,x139.AA,x139.AQ,x139.AL,(⟨x139.Ad.a,x139.Ad.cap,x139.Ad.xs⟩:Sl Ak),(⟨x139.Ai.a,x139.Ai.cap,x139.Ai.xs⟩:Sl Ap)⟩:Ag)] Ag.cells 47 8 104 (.slice aL1 xs1.length cL1) w142.heap.size 1 1 #[.string x139.Name,i6 x139.Entry,i6 x139.AP,i6 x139.AA,i6 x139.AQ,i6 x139.AL,.slice x139.Ad.a x139.Ad.xs.length x139.Ad.cap,.slice x139.Ai.a x139.Ai.xs.length x139.Ai.cap] 47 (0,0) true (some 63) [0,2,3,4,5,6,7] (by simp only[List.length_cons,List.length_nil];omega) (show z≤w142.heap.size+1 by omega) (.inr ⟨rfl,rfl⟩) (fun ax144 cp145 n146 (hn147:w142.heap.size+1≤n146) => ?_)
   refine Dx [0,2,3,4,6,63] [(Bd pc),(2,pt z),(Be z),(4,Ae n134),(6,Ae i1),(Yl ax144 xs1 x139 cp145)] ?_
   refine Bz [(6,o0)] [0,2,3,4,6,63,64] [] (Dh 7 1) [(Bd pc),(2,pt z),(Be z),(4,Ae n134),(6,Ae i1),(Yl ax144 xs1 x139 cp145),(64,.pointer (some ⟨z+1,5,none⟩))] Ac ?_
   refine BJ 7 ?_
   refine DT (a1 3) [0,2,3,4,6] [Qb (z+1)] [(Bd pc),(2,pt z),(Be z),(4,Ae n134),(6,Ae i1)] ⟨w,n146,[(old (fun b=>b=pc) w),(PW pc l n141 d140),(CW z),(Ut z v2 v7 v12 v17 aL0 xs0 cL0 ax144 xs1 x139 cp145),(Aq z 51 3 Af.cells xs0),(BP z aL0 xs0 cL0),(CO z xs1),(Cm z xs1),(QX z ax144 xs1 x139 cp145),(VT z x139),(TB z x139),(TQ x139 w142)]⟩ [] ⟨rfl,Ac⟩ (.inl rfl) ?_
   refine Ih 8 [0,1,2,3,4,5,6,7,8,9,10,11] [(old (fun b=>b=pc) w),(PW pc l n141 d140),(CW z),(Ut z v2 v7 v12 v17 aL0 xs0 cL0 ax144 xs1 x139 cp145),(Aq z 51 3 Af.cells xs0),(BP z aL0 xs0 cL0),(CO z xs1),(Cm z xs1),(QX z ax144 xs1 x139 cp145),(VT z x139),(TB z x139),(TQ x139 w142)] rfl rfl ?_
   refine C9 ?_
   refine Io 4 0 [] [[o0,(ov (i6 ((i1+1:Nat):Int))),o0]] [Wr ((i1:Int)+1) (((i1+1:Nat):Int))] [(Bd pc),(2,pt z),(Be z),(4,Ae n134),(6,i6 ((i1+1:Nat):Int))] rfl ⟨Bq,Ac⟩ ?_
   refine LK 6 9 [0,1,2,3,4,5,7,8,10,11] [(old (fun b=>b=pc) w),(PW pc l n141 d140),(CW z),(Ut z v2 v7 v12 v17 aL0 xs0 cL0 ax144 xs1 x139 cp145),(Aq z 51 3 Af.cells xs0),(BP z aL0 xs0 cL0),(Cm z xs1),(QX z ax144 xs1 x139 cp145),(TB z x139),(TQ x139 w142)] ?_
   refine LK 6 8 [0,1,2,3,4,5,7,9,10] [(old (fun b=>b=pc) w),(PW pc l n141 d140),(CW z),(Ut z v2 v7 v12 v17 aL0 xs0 cL0 ax144 xs1 x139 cp145),(Aq z 51 3 Af.cells xs0),(BP z aL0 xs0 cL0),(QX z ax144 xs1 x139 cp145),(TQ x139 w142),(Aq z 53 4 Ak.cells ((xs1.map Ag.Ad)++[⟨x139.Ad.a,x139.Ad.cap,x139.Ad.xs⟩]))] ?_
   refine CG [0,1,2,3,4,5,8,9,6] [(old (fun b=>b=pc) w),(PW pc l n141 d140),(CW z),(Ut z v2 v7 v12 v17 aL0 xs0 cL0 ax144 xs1 x139 cp145),(Aq z 51 3 Af.cells xs0),(BP z aL0 xs0 cL0),(Aq z 53 4 Ak.cells ((xs1.map Ag.Ad)++[⟨x139.Ad.a,x139.Ad.cap,x139.Ad.xs⟩])),(Aq z 55 2 Ap.cells ((xs1.map Ag.Ai)++[⟨x139.Ai.a,x139.Ai.cap,x139.Ai.xs⟩])),(QX z ax144 xs1 x139 cp145)] rfl rfl ?_
   refine Ce [0,2,3,4,6] [(Bd pc),(2,pt z),(Be z),(4,Ae n134),(6,i6 ((i1+1:Nat):Int))] ?_
   refine BB (fun a w' hs=>⟨n134 - (i1+1),by omega,n146,(i1+1),(xs1++[(⟨x139.Name,x139.Entry,x139.AP,x139.AA,x139.AQ,x139.AL,(⟨x139.Ad.a,x139.Ad.cap,x139.Ad.xs⟩:Sl Ak),(⟨x139.Ai.a,x139.Ai.cap,x139.Ai.xs⟩:Sl Ap)⟩:Ag)]),n141,d140,ax144,cp145,rfl,by omega,by omega,hm1.moreM (pl:=Ja) hstw142,by rw[List.length_append,hxl1];rfl,by omega,by(try dsimp only[Ut,TQ,NU,TF,CW,PW,QW,QX,VT,TB,BP,Dj,CO,Cm,Yl,Be,Bd]at hs ⊢);rw[LH,LH];exact hs⟩)
  refine Aw 10 0 [0] [[o0,o0,oT,o0,o0,o0,o0,(a1 1),o0,o0]] [BT ((i1:Int)<(n134:Int)),Qb pc] [(Bd pc),(2,pt z),(Be z),(4,Ae n134),(6,Ae i1),(55,.bool false)] rfl ⟨bt,rfl,Ac⟩ ?_
  have hst148:=FH.done hstw133 hm1 (.inr ⟨rfl,by omega⟩)
  refine Aw 1 1 [] [[o0]] [] [(Bd pc),(2,pt z),(Be z),(65,pt pc)] rfl Ac ?_
  refine l_call [] [] 63 #[pt pc,i6 1] (some 66) Ac ?_
  intro w149 hw149
  refine(Ip (hw149.at (i:=1) rfl) (Bf (fun x _ _ hx hv=>BC hv hx.2 _ (hw149.at (i:=0) rfl)) (fun x hx=>⟨Nat.lt_of_lt_of_le hx.1 (by rw[hw149.size];show w.heap.size≤n136;omega),hx.2⟩) hl) hB hlen (by omega)).mono ?_
  rintro e w153 ⟨v150,d151,n152,rfl,hstw153,hrxw153,hlaw153,hCw153,hkw153⟩
  obtain⟨n154,rfl⟩:∃ n:Nat,v150=(n:Int):=⟨_,(Int.toNat_of_nonneg hrxw153.1.1).symm⟩
  obtain⟨hnw153,hSw153⟩:=BR hw149 (i:=1) rfl hCw153 hkw153;have hnw153':n136≤w153.heap.size:=hnw153
  refine⟨_,_,rfl,hSw153, ?_⟩
  refine AC 8 0 [] [[o0],[o0]] [] [(Bd pc),(2,pt z),(Be z),(4,Ae n154),(7,i6 0)] rfl Ac ?_
  refine FW z 57 3 Ar.cells ?_
  refine Bl (fun m a w'=>∃ (n156:Nat) (i2:Nat) (xs2:List Ar) (at2:Nat) (bd2:Bool) (aL2:Option Addr) (cL2:Nat),m=n154 - i2∧w153.heap.size≤n156∧(i2≤n154)∧(FH d151 n152 (H9 l.xs) i2 bd2 at2 (xs2))∧(xs2.length=i2)∧(at2≤l.xs.length)∧St 95 [(Bd pc),(2,pt z),(Be z),(4,Ae n154),(7,Ae i2)] [] ⟨w,n156,[(old (fun b=>b=pc) w),(KE pc l at2 bd2),(CW z),(Ii z v2 v7 v12 v17 aL0 xs0 cL0 xs1 aL1 cL1 aL2 xs2 cL2),(Aq z 51 3 Af.cells xs0),(BP z aL0 xs0 cL0),(CO z xs1),(Cm z xs1),(Dj z xs1 aL1 cL1),(EP z aL2 xs2 cL2)]⟩ a w') (n154 - 0) ?_ ?_
  ·intro a w' hs;exact⟨w153.heap.size,0,([]),n152,d151,none,0,rfl,Nat.le_refl _,Nat.zero_le _,Jc _ _ _,rfl,by omega,hs⟩
  rintro m a w' ⟨n156,i2,xs2,at2,bd2,aL2,cL2,rfl,hn155,hki2,hm2,hxl2,hal2,hs⟩
  refine(?_:G Try.prog 95 [(Bd pc),(2,pt z),(Be z),(4,Ae n154),(7,Ae i2)] [] ⟨w,n156,[(old (fun b=>b=pc) w),(KE pc l at2 bd2),(CW z),(Ii z v2 v7 v12 v17 aL0 xs0 cL0 xs1 aL1 cL1 aL2 xs2 cL2),(Aq z 51 3 Af.cells xs0),(BP z aL0 xs0 cL0),(CO z xs1),(Cm z xs1),(Dj z xs1 aL1 cL1),(EP z aL2 xs2 cL2)]⟩ _ _ _) a w' hs
  clear hs a w'
  refine Bi <| Bi ?_
  by_cases h157:(i2:Int)<(n154:Int)
  ·cases bd2
   ·refine Aw 10 1 [1] [[o0,o0,oT,o0,o0,o0,o0,(a1 1),o0,o0],[o0]] [BT ((i2:Int)<(n154:Int)),Qb pc] [(Bd pc),(2,pt z),(Be z),(4,Ae n154),(7,Ae i2),(79,pt pc)] rfl ⟨bt,rfl,Ac⟩ ?_
    refine l_call [] [] 63 #[pt pc,i6 4] (some 80) Ac ?_
    intro w158 hw158
    refine(Dl (hw158.at (i:=1) rfl) (Bf (fun x _ _ hx hv=>BC hv hx.2 _ (hw158.at (i:=0) rfl)) (fun x hx=>⟨Nat.lt_of_lt_of_le hx.1 (by rw[hw158.size];show w.heap.size≤n156;omega),hx.2⟩) hl) hB hlen (by omega)).mono ?_
    rintro e w162 ⟨v159,d160,n161,rfl,hstw162,hrxw162,hlaw162,hCw162,hkw162⟩
    obtain⟨hnw162,hSw162⟩:=BR hw158 (i:=1) rfl hCw162 hkw162;have hnw162':n156≤w162.heap.size:=hnw162
    refine⟨_,_,rfl,hSw162, ?_⟩
    refine AC 4 1 [] [[o0],[o0]] [] [(Bd pc),(2,pt z),(Be z),(4,Ae n154),(7,Ae i2),(8,i6 v159),(81,pt pc)] rfl Ac ?_
    refine l_call [] [] 63 #[pt pc,i6 4] (some 82) Ac ?_
    intro w163 hw163
    refine(Dl (hw163.at (i:=1) rfl) (Bf (fun x _ _ hx hv=>BC hv hx.2 _ (hw163.at (i:=0) rfl)) (fun x hx=>⟨Nat.lt_of_lt_of_le hx.1 (by rw[hw163.size];show w.heap.size≤w162.heap.size;omega),hx.2⟩) hl) hB hlen (by omega)).mono ?_
    rintro e w167 ⟨v164,d165,n166,rfl,hstw167,hrxw167,hlaw167,hCw167,hkw167⟩
    obtain⟨hnw167,hSw167⟩:=BR hw163 (i:=1) rfl hCw167 hkw167;have hnw167':w162.heap.size≤w167.heap.size:=hnw167
    refine⟨_,_,rfl,hSw167, ?_⟩
    refine AC 4 1 [] [[o0],[o0]] [] [(Bd pc),(2,pt z),(Be z),(4,Ae n154),(7,Ae i2),(8,i6 v159),(9,i6 v164),(83,pt pc)] rfl Ac ?_
    refine l_call [] [] 63 #[pt pc,i6 4] (some 84) Ac ?_
    intro w168 hw168
    refine(Dl (hw168.at (i:=1) rfl) (Bf (fun x _ _ hx hv=>BC hv hx.2 _ (hw168.at (i:=0) rfl)) (fun x hx=>⟨Nat.lt_of_lt_of_le hx.1 (by rw[hw168.size];show w.heap.size≤w167.heap.size;omega),hx.2⟩) hl) hB hlen (by omega)).mono ?_
    rintro e w172 ⟨v169,d170,n171,rfl,hstw172,hrxw172,hlaw172,hCw172,hkw172⟩
    obtain⟨hnw172,hSw172⟩:=BR hw168 (i:=1) rfl hCw172 hkw172;have hnw172':w167.heap.size≤w172.heap.size:=hnw172
    refine⟨_,_,rfl,hSw172, ?_⟩
    refine Ey 3 7 [] [[o0],[o0,(a1 3),o0,o0,o0,o0,o0]] [Qb (z+1)] [(Bd pc),(2,pt z),(Be z),(4,Ae n154),(7,Ae i2),(86,.slice aL2 xs2.length cL2),(91,.slice (some ⟨w172.heap.size,0,none⟩) 1 1)] ⟨w,w172.heap.size+1,[(old (fun b=>b=pc) w),(Yr pc l n171 d170),(CW z),(Ii z v2 v7 v12 v17 aL0 xs0 cL0 xs1 aL1 cL1 aL2 xs2 cL2),(Aq z 51 3 Af.cells xs0),(BP z aL0 xs0 cL0),(CO z xs1),(Cm z xs1),(Dj z xs1 aL1 cL1),(EP z aL2 xs2 cL2),(.blk w172.heap.size (.cells #[i6 v159,i6 v164,i6 v169] 57 (0,0)) true)]⟩ rfl ⟨rfl,Ac⟩ ?_
    refine E8 z 9 10 xs2 [(⟨v159,v164,v169⟩:Ar)] Ar.cells 57 3 24 (.slice aL2 xs2.length cL2) w172.heap.size 1 1 #[i6 v159,i6 v164,i6 v169] 57 (0,0) true (some 92) (by simp only[List.length_cons,List.length_nil];omega) (show z≤w172.heap.size+1 by omega) (fun ax173 cp174 n175 (hn176:w172.heap.size+1≤n175) => ?_)
    refine Ey 5 0 [] [[o0,(a1 3)],[o0,(ov (i6 ((i2+1:Nat):Int))),o0]] [Qb (z+1),Wr ((i2:Int)+1) (((i2+1:Nat):Int))] [(Bd pc),(2,pt z),(Be z),(4,Ae n154),(OH i2)] ⟨w,n175,[(old (fun b=>b=pc) w),(Yr pc l n171 d170),(CW z),(bk (z+1) #[i6 v2,i6 v7,i6 v12,i6 v17,.slice aL0 xs0.length cL0,.slice aL1 xs1.length cL1,.slice ax173 ((xs2++[(⟨v159,v164,v169⟩:Ar)]).length) cp174] 26),(Aq z 51 3 Af.cells xs0),(BP z aL0 xs0 cL0),(CO z xs1),(Cm z xs1),(Dj z xs1 aL1 cL1),(Au z 57 3 Ar.cells (.slice ax173 ((xs2++[(⟨v159,v164,v169⟩:Ar)]).length) cp174) (xs2++[(⟨v159,v164,v169⟩:Ar)])),(.blk w172.heap.size (.cells #[i6 v159,i6 v164,i6 v169] 57 (0,0)) true)]⟩ rfl ⟨rfl,Bq,Ac⟩ ?_
    refine CG [0,1,2,3,4,5,6,7,8,9] [(old (fun b=>b=pc) w),(Yr pc l n171 d170),(CW z),(bk (z+1) #[i6 v2,i6 v7,i6 v12,i6 v17,.slice aL0 xs0.length cL0,.slice aL1 xs1.length cL1,.slice ax173 ((xs2++[(⟨v159,v164,v169⟩:Ar)]).length) cp174] 26),(Aq z 51 3 Af.cells xs0),(BP z aL0 xs0 cL0),(CO z xs1),(Cm z xs1),(Dj z xs1 aL1 cL1),(Au z 57 3 Ar.cells (.slice ax173 ((xs2++[(⟨v159,v164,v169⟩:Ar)]).length) cp174) (xs2++[(⟨v159,v164,v169⟩:Ar)]))] rfl rfl ?_
    refine Ce [0,2,3,4,7] [(Bd pc),(2,pt z),(Be z),(4,Ae n154),(OH i2)] ?_
    refine BB (fun a w' hs=>⟨n154 - (i2+1),by omega,n175,(i2+1),(xs2++[(⟨v159,v164,v169⟩:Ar)]),n171,d170,ax173,cp174,rfl,by omega,by omega,hm2.more (by unfold H9;exact hstw162.bind (hstw167.bind (hstw172.map))),by rw[List.length_append,hxl2];rfl,by omega,hs⟩)
   refine Aw 10 0 [0] [[o0,o0,oT,o0,o0,o0,o0,(a1 1),o0,o0]] [BT ((i2:Int)<(n154:Int)),Qb pc] [(Bd pc),(2,pt z),(Be z),(4,Ae n154),(7,Ae i2),(76,.bool false)] rfl ⟨bt,rfl,Ac⟩ ?_
   have hst177:=FH.done hstw153 hm2 (.inr ⟨rfl,by omega⟩)
   refine q_c 4 0 [] [[(an 7 3),(an 7 2)]] [Qb (z+1),Qb (z+1),Qb (z+1),Qb (z+1),Qb (z+1),Qb (z+1),Qb (z+1),Qb z,Qb z,Qb z,Qb z,Qb z,Qb z,Qb z] [(2,pt z)] ⟨w,n156,[(old (fun b=>b=pc) w),(Wh pc l at2),(Qm z v2 v7 v12 v17 aL0 xs0 cL0 xs1 aL1 cL1 aL2 xs2 cL2),(Ii z v2 v7 v12 v17 aL0 xs0 cL0 xs1 aL1 cL1 aL2 xs2 cL2),(Aq z 51 3 Af.cells xs0),(BP z aL0 xs0 cL0),(CO z xs1),(Cm z xs1),(Dj z xs1 aL1 cL1),(EP z aL2 xs2 cL2)]⟩ rfl ⟨rfl,rfl,rfl,rfl,rfl,rfl,rfl,rfl,rfl,rfl,rfl,rfl,rfl,rfl,Ac⟩ ?_
   refine AU [.at 2,.at 2,.at 2,.at 2,.at 2,.at 2,.at 2] [Qb z,Qb z,Qb z,Qb z,Qb z,Qb z,Qb z] (.agg #[i6 v2,i6 v7,i6 v12,i6 v17,.slice aL0 xs0.length cL0,.slice aL1 xs1.length cL1,.slice aL2 xs2.length cL2]) ⟨rfl,rfl,rfl,rfl,rfl,rfl,rfl,Ac⟩ ?_
   intro w178 hw178
   exact⟨(⟨v2,v7,v12,v17,⟨aL0,cL0,xs0⟩,⟨aL1,cL1,xs1⟩,⟨aL2,cL2,xs2⟩⟩:Am),_,_,rfl,(by unfold Eg;exact hstw5.bind (hstw10.bind (hstw15.bind (hstw20.bind (hst128.bind (hst148.bind (hst177.map))))))),by omega,hw178.at (i:=1) rfl,A7 hw178,IR (fs:=HY (⟨v2,v7,v12,v17,⟨aL0,cL0,xs0⟩,⟨aL1,cL1,xs1⟩,⟨aL2,cL2,xs2⟩⟩:Am)) (JW (⟨v2,v7,v12,v17,⟨aL0,cL0,xs0⟩,⟨aL1,cL1,xs1⟩,⟨aL2,cL2,xs2⟩⟩:Am)) (by have hP:=hw178.pick [5,4,8,6,7,9] (σ':=[(BP z aL0 xs0 cL0),(Aq z 51 3 Af.cells xs0),(Dj z xs1 aL1 cL1),(CO z xs1),(Cm z xs1),(EP z aL2 xs2 cL2)]) rfl rfl;rw[hw178.size];exact hz ▸ hP)⟩
  refine Aw 10 0 [0] [[o0,o0,oF,o0,o0]] [BF ((i2:Int)<(n154:Int))] [(Bd pc),(2,pt z),(Be z),(4,Ae n154),(7,Ae i2),(76,.bool false)] rfl ⟨bf,Ac⟩ ?_
  have hst179:=FH.done hstw153 hm2 (.inl (by omega))
  refine q_c 4 0 [] [[(an 7 3),(an 7 2)]] [Qb (z+1),Qb (z+1),Qb (z+1),Qb (z+1),Qb (z+1),Qb (z+1),Qb (z+1),Qb z,Qb z,Qb z,Qb z,Qb z,Qb z,Qb z] [(2,pt z)] ⟨w,n156,[(old (fun b=>b=pc) w),(KE pc l at2 bd2),(Qm z v2 v7 v12 v17 aL0 xs0 cL0 xs1 aL1 cL1 aL2 xs2 cL2),(Ii z v2 v7 v12 v17 aL0 xs0 cL0 xs1 aL1 cL1 aL2 xs2 cL2),(Aq z 51 3 Af.cells xs0),(BP z aL0 xs0 cL0),(CO z xs1),(Cm z xs1),(Dj z xs1 aL1 cL1),(EP z aL2 xs2 cL2)]⟩ rfl ⟨rfl,rfl,rfl,rfl,rfl,rfl,rfl,rfl,rfl,rfl,rfl,rfl,rfl,rfl,Ac⟩ ?_
  refine AU [.at 2,.at 2,.at 2,.at 2,.at 2,.at 2,.at 2] [Qb z,Qb z,Qb z,Qb z,Qb z,Qb z,Qb z] (.agg #[i6 v2,i6 v7,i6 v12,i6 v17,.slice aL0 xs0.length cL0,.slice aL1 xs1.length cL1,.slice aL2 xs2.length cL2]) ⟨rfl,rfl,rfl,rfl,rfl,rfl,rfl,Ac⟩ ?_
  intro w180 hw180
  exact⟨(⟨v2,v7,v12,v17,⟨aL0,cL0,xs0⟩,⟨aL1,cL1,xs1⟩,⟨aL2,cL2,xs2⟩⟩:Am),_,_,rfl,(by unfold Eg;exact hstw5.bind (hstw10.bind (hstw15.bind (hstw20.bind (hst128.bind (hst148.bind (hst179.map))))))),by omega,hw180.at (i:=1) rfl,A7 hw180,IR (fs:=HY (⟨v2,v7,v12,v17,⟨aL0,cL0,xs0⟩,⟨aL1,cL1,xs1⟩,⟨aL2,cL2,xs2⟩⟩:Am)) (JW (⟨v2,v7,v12,v17,⟨aL0,cL0,xs0⟩,⟨aL1,cL1,xs1⟩,⟨aL2,cL2,xs2⟩⟩:Am)) (by have hP:=hw180.pick [5,4,8,6,7,9] (σ':=[(BP z aL0 xs0 cL0),(Aq z 51 3 Af.cells xs0),(Dj z xs1 aL1 cL1),(CO z xs1),(Cm z xs1),(EP z aL2 xs2 cL2)]) rfl rfl;rw[hw180.size];exact hz ▸ hP)⟩
 refine Aw 10 0 [0] [[o0,o0,oF,o0,o0]] [BF ((i1:Int)<(n134:Int))] [(Bd pc),(2,pt z),(Be z),(4,Ae n134),(6,Ae i1),(55,.bool false)] rfl ⟨bf,Ac⟩ ?_
 have hst181:=FH.done hstw133 hm1 (.inl (by omega))
 refine Aw 1 1 [] [[o0]] [] [(Bd pc),(2,pt z),(Be z),(65,pt pc)] rfl Ac ?_
 refine l_call [] [] 63 #[pt pc,i6 1] (some 66) Ac ?_
 intro w182 hw182
 refine(Ip (hw182.at (i:=1) rfl) (Bf (fun x _ _ hx hv=>BC hv hx.2 _ (hw182.at (i:=0) rfl)) (fun x hx=>⟨Nat.lt_of_lt_of_le hx.1 (by rw[hw182.size];show w.heap.size≤n136;omega),hx.2⟩) hl) hB hlen (by omega)).mono ?_
 rintro e w186 ⟨v183,d184,n185,rfl,hstw186,hrxw186,hlaw186,hCw186,hkw186⟩
 obtain⟨n187,rfl⟩:∃ n:Nat,v183=(n:Int):=⟨_,(Int.toNat_of_nonneg hrxw186.1.1).symm⟩
 obtain⟨hnw186,hSw186⟩:=BR hw182 (i:=1) rfl hCw186 hkw186;have hnw186':n136≤w186.heap.size:=hnw186
 refine⟨_,_,rfl,hSw186, ?_⟩
 refine AC 8 0 [] [[o0],[o0]] [] [(Bd pc),(2,pt z),(Be z),(4,Ae n187),(7,i6 0)] rfl Ac ?_
 refine FW z 57 3 Ar.cells ?_
 refine Bl (fun m a w'=>∃ (n189:Nat) (i2:Nat) (xs2:List Ar) (at2:Nat) (bd2:Bool) (aL2:Option Addr) (cL2:Nat),m=n187 - i2∧w186.heap.size≤n189∧(i2≤n187)∧(FH d184 n185 (H9 l.xs) i2 bd2 at2 (xs2))∧(xs2.length=i2)∧(at2≤l.xs.length)∧St 95 [(Bd pc),(2,pt z),(Be z),(4,Ae n187),(7,Ae i2)] [] ⟨w,n189,[(old (fun b=>b=pc) w),(KE pc l at2 bd2),(CW z),(Ii z v2 v7 v12 v17 aL0 xs0 cL0 xs1 aL1 cL1 aL2 xs2 cL2),(Aq z 51 3 Af.cells xs0),(BP z aL0 xs0 cL0),(CO z xs1),(Cm z xs1),(Dj z xs1 aL1 cL1),(EP z aL2 xs2 cL2)]⟩ a w') (n187 - 0) ?_ ?_
 ·intro a w' hs;exact⟨w186.heap.size,0,([]),n185,d184,none,0,rfl,Nat.le_refl _,Nat.zero_le _,Jc _ _ _,rfl,by omega,hs⟩
 rintro m a w' ⟨n189,i2,xs2,at2,bd2,aL2,cL2,rfl,hn188,hki2,hm2,hxl2,hal2,hs⟩
 refine(?_:G Try.prog 95 [(Bd pc),(2,pt z),(Be z),(4,Ae n187),(7,Ae i2)] [] ⟨w,n189,[(old (fun b=>b=pc) w),(KE pc l at2 bd2),(CW z),(Ii z v2 v7 v12 v17 aL0 xs0 cL0 xs1 aL1 cL1 aL2 xs2 cL2),(Aq z 51 3 Af.cells xs0),(BP z aL0 xs0 cL0),(CO z xs1),(Cm z xs1),(Dj z xs1 aL1 cL1),(EP z aL2 xs2 cL2)]⟩ _ _ _) a w' hs
 clear hs a w'
 refine Bi <| Bi ?_
 by_cases h190:(i2:Int)<(n187:Int)
 ·cases bd2
  ·refine Aw 10 1 [1] [[o0,o0,oT,o0,o0,o0,o0,(a1 1),o0,o0],[o0]] [BT ((i2:Int)<(n187:Int)),Qb pc] [(Bd pc),(2,pt z),(Be z),(4,Ae n187),(7,Ae i2),(79,pt pc)] rfl ⟨bt,rfl,Ac⟩ ?_
   refine l_call [] [] 63 #[pt pc,i6 4] (some 80) Ac ?_
   intro w191 hw191
   refine(Dl (hw191.at (i:=1) rfl) (Bf (fun x _ _ hx hv=>BC hv hx.2 _ (hw191.at (i:=0) rfl)) (fun x hx=>⟨Nat.lt_of_lt_of_le hx.1 (by rw[hw191.size];show w.heap.size≤n189;omega),hx.2⟩) hl) hB hlen (by omega)).mono ?_
   rintro e w195 ⟨v192,d193,n194,rfl,hstw195,hrxw195,hlaw195,hCw195,hkw195⟩
   obtain⟨hnw195,hSw195⟩:=BR hw191 (i:=1) rfl hCw195 hkw195;have hnw195':n189≤w195.heap.size:=hnw195
   refine⟨_,_,rfl,hSw195, ?_⟩
   refine AC 4 1 [] [[o0],[o0]] [] [(Bd pc),(2,pt z),(Be z),(4,Ae n187),(7,Ae i2),(8,i6 v192),(81,pt pc)] rfl Ac ?_
   refine l_call [] [] 63 #[pt pc,i6 4] (some 82) Ac ?_
   intro w196 hw196
   refine(Dl (hw196.at (i:=1) rfl) (Bf (fun x _ _ hx hv=>BC hv hx.2 _ (hw196.at (i:=0) rfl)) (fun x hx=>⟨Nat.lt_of_lt_of_le hx.1 (by rw[hw196.size];show w.heap.size≤w195.heap.size;omega),hx.2⟩) hl) hB hlen (by omega)).mono ?_
   rintro e w200 ⟨v197,d198,n199,rfl,hstw200,hrxw200,hlaw200,hCw200,hkw200⟩
   obtain⟨hnw200,hSw200⟩:=BR hw196 (i:=1) rfl hCw200 hkw200;have hnw200':w195.heap.size≤w200.heap.size:=hnw200
   refine⟨_,_,rfl,hSw200, ?_⟩
   refine AC 4 1 [] [[o0],[o0]] [] [(Bd pc),(2,pt z),(Be z),(4,Ae n187),(7,Ae i2),(8,i6 v192),(9,i6 v197),(83,pt pc)] rfl Ac ?_
   refine l_call [] [] 63 #[pt pc,i6 4] (some 84) Ac ?_
   intro w201 hw201
   refine(Dl (hw201.at (i:=1) rfl) (Bf (fun x _ _ hx hv=>BC hv hx.2 _ (hw201.at (i:=0) rfl)) (fun x hx=>⟨Nat.lt_of_lt_of_le hx.1 (by rw[hw201.size];show w.heap.size≤w200.heap.size;omega),hx.2⟩) hl) hB hlen (by omega)).mono ?_
   rintro e w205 ⟨v202,d203,n204,rfl,hstw205,hrxw205,hlaw205,hCw205,hkw205⟩
   obtain⟨hnw205,hSw205⟩:=BR hw201 (i:=1) rfl hCw205 hkw205;have hnw205':w200.heap.size≤w205.heap.size:=hnw205
   refine⟨_,_,rfl,hSw205, ?_⟩
   refine Ey 3 7 [] [[o0],[o0,(a1 3),o0,o0,o0,o0,o0]] [Qb (z+1)] [(Bd pc),(2,pt z),(Be z),(4,Ae n187),(7,Ae i2),(86,.slice aL2 xs2.length cL2),(91,.slice (some ⟨w205.heap.size,0,none⟩) 1 1)] ⟨w,w205.heap.size+1,[(old (fun b=>b=pc) w),(Y4 pc l n204 d203),(CW z),(Ii z v2 v7 v12 v17 aL0 xs0 cL0 xs1 aL1 cL1 aL2 xs2 cL2),(Aq z 51 3 Af.cells xs0),(BP z aL0 xs0 cL0),(CO z xs1),(Cm z xs1),(Dj z xs1 aL1 cL1),(EP z aL2 xs2 cL2),(.blk w205.heap.size (.cells #[i6 v192,i6 v197,i6 v202] 57 (0,0)) true)]⟩ rfl ⟨rfl,Ac⟩ ?_
   refine E8 z 9 10 xs2 [(⟨v192,v197,v202⟩:Ar)] Ar.cells 57 3 24 (.slice aL2 xs2.length cL2) w205.heap.size 1 1 #[i6 v192,i6 v197,i6 v202] 57 (0,0) true (some 92) (by simp only[List.length_cons,List.length_nil];omega) (show z≤w205.heap.size+1 by omega) (fun ax206 cp207 n208 (hn209:w205.heap.size+1≤n208) => ?_)
   refine Ey 5 0 [] [[o0,(a1 3)],[o0,(ov (i6 ((i2+1:Nat):Int))),o0]] [Qb (z+1),Wr ((i2:Int)+1) (((i2+1:Nat):Int))] [(Bd pc),(2,pt z),(Be z),(4,Ae n187),(OH i2)] ⟨w,n208,[(old (fun b=>b=pc) w),(Y4 pc l n204 d203),(CW z),(bk (z+1) #[i6 v2,i6 v7,i6 v12,i6 v17,.slice aL0 xs0.length cL0,.slice aL1 xs1.length cL1,.slice ax206 ((xs2++[(⟨v192,v197,v202⟩:Ar)]).length) cp207] 26),(Aq z 51 3 Af.cells xs0),(BP z aL0 xs0 cL0),(CO z xs1),(Cm z xs1),(Dj z xs1 aL1 cL1),(Au z 57 3 Ar.cells (.slice ax206 ((xs2++[(⟨v192,v197,v202⟩:Ar)]).length) cp207) (xs2++[(⟨v192,v197,v202⟩:Ar)])),(.blk w205.heap.size (.cells #[i6 v192,i6 v197,i6 v202] 57 (0,0)) true)]⟩ rfl ⟨rfl,Bq,Ac⟩ ?_
   refine CG [0,1,2,3,4,5,6,7,8,9] [(old (fun b=>b=pc) w),(Y4 pc l n204 d203),(CW z),(bk (z+1) #[i6 v2,i6 v7,i6 v12,i6 v17,.slice aL0 xs0.length cL0,.slice aL1 xs1.length cL1,.slice ax206 ((xs2++[(⟨v192,v197,v202⟩:Ar)]).length) cp207] 26),(Aq z 51 3 Af.cells xs0),(BP z aL0 xs0 cL0),(CO z xs1),(Cm z xs1),(Dj z xs1 aL1 cL1),(Au z 57 3 Ar.cells (.slice ax206 ((xs2++[(⟨v192,v197,v202⟩:Ar)]).length) cp207) (xs2++[(⟨v192,v197,v202⟩:Ar)]))] rfl rfl ?_
   refine Ce [0,2,3,4,7] [(Bd pc),(2,pt z),(Be z),(4,Ae n187),(OH i2)] ?_
   refine BB (fun a w' hs=>⟨n187 - (i2+1),by omega,n208,(i2+1),(xs2++[(⟨v192,v197,v202⟩:Ar)]),n204,d203,ax206,cp207,rfl,by omega,by omega,hm2.more (by unfold H9;exact hstw195.bind (hstw200.bind (hstw205.map))),by rw[List.length_append,hxl2];rfl,by omega,hs⟩)
  refine Aw 10 0 [0] [[o0,o0,oT,o0,o0,o0,o0,(a1 1),o0,o0]] [BT ((i2:Int)<(n187:Int)),Qb pc] [(Bd pc),(2,pt z),(Be z),(4,Ae n187),(7,Ae i2),(76,.bool false)] rfl ⟨bt,rfl,Ac⟩ ?_
  have hst210:=FH.done hstw186 hm2 (.inr ⟨rfl,by omega⟩)
  refine q_c 4 0 [] [[(an 7 3),(an 7 2)]] [Qb (z+1),Qb (z+1),Qb (z+1),Qb (z+1),Qb (z+1),Qb (z+1),Qb (z+1),Qb z,Qb z,Qb z,Qb z,Qb z,Qb z,Qb z] [(2,pt z)] ⟨w,n189,[(old (fun b=>b=pc) w),(Wh pc l at2),(Qm z v2 v7 v12 v17 aL0 xs0 cL0 xs1 aL1 cL1 aL2 xs2 cL2),(Ii z v2 v7 v12 v17 aL0 xs0 cL0 xs1 aL1 cL1 aL2 xs2 cL2),(Aq z 51 3 Af.cells xs0),(BP z aL0 xs0 cL0),(CO z xs1),(Cm z xs1),(Dj z xs1 aL1 cL1),(EP z aL2 xs2 cL2)]⟩ rfl ⟨rfl,rfl,rfl,rfl,rfl,rfl,rfl,rfl,rfl,rfl,rfl,rfl,rfl,rfl,Ac⟩ ?_
  refine AU [.at 2,.at 2,.at 2,.at 2,.at 2,.at 2,.at 2] [Qb z,Qb z,Qb z,Qb z,Qb z,Qb z,Qb z] (.agg #[i6 v2,i6 v7,i6 v12,i6 v17,.slice aL0 xs0.length cL0,.slice aL1 xs1.length cL1,.slice aL2 xs2.length cL2]) ⟨rfl,rfl,rfl,rfl,rfl,rfl,rfl,Ac⟩ ?_
  intro w211 hw211
  exact⟨(⟨v2,v7,v12,v17,⟨aL0,cL0,xs0⟩,⟨aL1,cL1,xs1⟩,⟨aL2,cL2,xs2⟩⟩:Am),_,_,rfl,(by unfold Eg;exact hstw5.bind (hstw10.bind (hstw15.bind (hstw20.bind (hst128.bind (hst181.bind (hst210.map))))))),by omega,hw211.at (i:=1) rfl,A7 hw211,IR (fs:=HY (⟨v2,v7,v12,v17,⟨aL0,cL0,xs0⟩,⟨aL1,cL1,xs1⟩,⟨aL2,cL2,xs2⟩⟩:Am)) (JW (⟨v2,v7,v12,v17,⟨aL0,cL0,xs0⟩,⟨aL1,cL1,xs1⟩,⟨aL2,cL2,xs2⟩⟩:Am)) (by have hP:=hw211.pick [5,4,8,6,7,9] (σ':=[(BP z aL0 xs0 cL0),(Aq z 51 3 Af.cells xs0),(Dj z xs1 aL1 cL1),(CO z xs1),(Cm z xs1),(EP z aL2 xs2 cL2)]) rfl rfl;rw[hw211.size];exact hz ▸ hP)⟩
 refine Aw 10 0 [0] [[o0,o0,oF,o0,o0]] [BF ((i2:Int)<(n187:Int))] [(Bd pc),(2,pt z),(Be z),(4,Ae n187),(7,Ae i2),(76,.bool false)] rfl ⟨bf,Ac⟩ ?_
 have hst212:=FH.done hstw186 hm2 (.inl (by omega))
 refine q_c 4 0 [] [[(an 7 3),(an 7 2)]] [Qb (z+1),Qb (z+1),Qb (z+1),Qb (z+1),Qb (z+1),Qb (z+1),Qb (z+1),Qb z,Qb z,Qb z,Qb z,Qb z,Qb z,Qb z] [(2,pt z)] ⟨w,n189,[(old (fun b=>b=pc) w),(KE pc l at2 bd2),(Qm z v2 v7 v12 v17 aL0 xs0 cL0 xs1 aL1 cL1 aL2 xs2 cL2),(Ii z v2 v7 v12 v17 aL0 xs0 cL0 xs1 aL1 cL1 aL2 xs2 cL2),(Aq z 51 3 Af.cells xs0),(BP z aL0 xs0 cL0),(CO z xs1),(Cm z xs1),(Dj z xs1 aL1 cL1),(EP z aL2 xs2 cL2)]⟩ rfl ⟨rfl,rfl,rfl,rfl,rfl,rfl,rfl,rfl,rfl,rfl,rfl,rfl,rfl,rfl,Ac⟩ ?_
 refine AU [.at 2,.at 2,.at 2,.at 2,.at 2,.at 2,.at 2] [Qb z,Qb z,Qb z,Qb z,Qb z,Qb z,Qb z] (.agg #[i6 v2,i6 v7,i6 v12,i6 v17,.slice aL0 xs0.length cL0,.slice aL1 xs1.length cL1,.slice aL2 xs2.length cL2]) ⟨rfl,rfl,rfl,rfl,rfl,rfl,rfl,Ac⟩ ?_
 intro w213 hw213
 exact⟨(⟨v2,v7,v12,v17,⟨aL0,cL0,xs0⟩,⟨aL1,cL1,xs1⟩,⟨aL2,cL2,xs2⟩⟩:Am),_,_,rfl,(by unfold Eg;exact hstw5.bind (hstw10.bind (hstw15.bind (hstw20.bind (hst128.bind (hst181.bind (hst212.map))))))),by omega,hw213.at (i:=1) rfl,A7 hw213,IR (fs:=HY (⟨v2,v7,v12,v17,⟨aL0,cL0,xs0⟩,⟨aL1,cL1,xs1⟩,⟨aL2,cL2,xs2⟩⟩:Am)) (JW (⟨v2,v7,v12,v17,⟨aL0,cL0,xs0⟩,⟨aL1,cL1,xs1⟩,⟨aL2,cL2,xs2⟩⟩:Am)) (by have hP:=hw213.pick [5,4,8,6,7,9] (σ':=[(BP z aL0 xs0 cL0),(Aq z 51 3 Af.cells xs0),(Dj z xs1 aL1 cL1),(CO z xs1),(Cm z xs1),(EP z aL2 xs2 cL2)]) rfl rfl;rw[hw213.size];exact hz ▸ hP)⟩
end Go.Proofs.Ytjmcjekhgpakoaa.Cf
