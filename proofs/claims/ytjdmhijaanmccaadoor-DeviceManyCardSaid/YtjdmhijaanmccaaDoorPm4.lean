/- Packed: Li, Lz, Ah, Ai, Aj, EngX, Ak, Al, EngZ, Ao, Ap, EngAa, EngAb, Va, Aq, Vb, Vc. No conditions. -/
import Derived.Test.YtjdmhijaanmccaaDoorPm3
import Derived.LoopN
set_option maxHeartbeats 4000000
namespace Go.Proofs.YtjdmhijaanmccaaDoor.Ly
open Go Go.Proofs.YtjdmhijaanmccaaDoor.Eng Go.Proofs.YtjdmhijaanmccaaDoor.Mem
set_option linter.unusedSimpArgs false
set_option linter.unusedVariables false
set_option maxRecDepth 100000
theorem Uw{c:Ai}{i:Nat}:Ec c (i+1)=Ec c i+1+(Jr (gd c.Aa.xs i):Int):=rfl
theorem tAt_zero{c:Ai}:Ec c 0=(CX c c.Aj.xs.length+16 - 1) / 16:=rfl
theorem Zj{n:Nat}{x:Ar}(h:Ef n x=true):∀ i,i<x.Ah.xs.length→Kw (gd x.Ah.xs i)=true:=fun i hi=>by
 rw[Gv hi];exact List.all_eq_true.1 (part_regs h).2 _ (List.getElem_mem hi)
theorem can_yes(w:World)(c:Ai)(hc:Ai.ok Any w c)(h:Ej c=true):Calls Tryd.prog 37 #[.agg (Ai.arr c)] w fun e w'=>e = .returned (.bool true)∧CE (fun _=>False) w w':=by
 have:=can_calls w c hc
 rwa [h]at this
theorem can_no(w:World)(c:Ai)(hc:Ai.ok Any w c)(h:Ej c=false):Calls Tryd.prog 37 #[.agg (Ai.arr c)] w fun e w'=>e = .returned (.bool false)∧CE (fun _=>False) w w':=by
 have:=can_calls w c hc
 rwa [h]at this
def layS(n:Nat)(L:G9):List Ch:=[Cm n 70 5 Aq.cells L.Aa.val L.Aa.xs,Cm n 91 5 A8.cells L.Aj.val L.Aj.xs,IP n 99 3 BH.cells (L.Aj.xs.map A8.DJ),IP n 3 1 (fun x:Int=>[Value.int .i64 x]) (L.Aa.xs.map Aq.Tables)]
def WE(n:Nat)(W:World)(L:G9):Prop:=∃ w0,Sat ⟨w0,W.heap.size,layS n L⟩ W
theorem Xw{c:Ai}{k:Int}{b:Bool}(hp:∀ i,i<c.Aa.xs.length→(gd c.Aa.xs i).Ap.xs.length≤8)(h8:c.Aa.xs.length≤8):∀ y∈Cj c k b,0≤y.partition∧y.partition<8∧0≤y.port∧y.port<8:=by
 intro y hy
 unfold Cj Dj at hy
 simp only[List.mem_flatMap,List.mem_range]at hy
 obtain⟨p,hpl,hy⟩:=hy
 unfold CQ at hy
 simp only[List.mem_map,List.mem_filter,List.mem_range]at hy
 obtain⟨q,⟨hq, -⟩,rfl⟩:=hy
 have:=hp p hpl
 simp only
 omega
theorem PX{x:Int}(h:0≤x)(h2:x≤1000000):IC .i64 x:=⟨by omega,by omega⟩
theorem VJ{F:Nat→Prop}{W:World}{c:Ai}{k:Int}{b:Bool}(hf:Fine c):∀ i,i<(Cj c k b).length→Gp.ok F W (gd (Cj c k b) i):=fun i hi=>by
 have:=Xw (k:=k) (b:=b) (fun i hi=>Ol (hf.parts i hi)) hf.pn (gd (Cj c k b) i) (by rw[Gv hi];exact List.getElem_mem _)
 exact⟨PX (by omega) (by omega),PX (by omega) (by omega)⟩
theorem fam_sl{α:Type}{base:Nat}{e:TypeId}{sz:Nat}{cells:α→List Value}{hs:List (Sl α)}{W:World}(hsz:∀ x,(cells x).length=sz)(h:(IP base e sz cells hs).holds W){s:Sl α}(hs':s∈hs)(hl:s.xs.length≤140737488351232):Wy cells sz (New base) W s:=Sv hsz (h.1 s hs') hl
theorem lay_ok{c:Ai}{n:Nat}{W:World}{L:G9}(hf:Fine c)(hL:VG c L)(ho:WE n W L):G9.ok (New n) W L:=by
 obtain⟨w0,hs⟩:=ho
 have h0:W.ownsRow n 70 5 L.Aa.val L.Aa.xs.length (L.Aa.xs.flatMap Aq.cells):=hs.at (i:=0) rfl
 have h1:W.ownsRow n 91 5 L.Aj.val L.Aj.xs.length (L.Aj.xs.flatMap A8.cells):=hs.at (i:=1) rfl
 have h2:(IP n 99 3 BH.cells (L.Aj.xs.map A8.DJ)).holds W:=hs.at (i:=2) rfl
 have h3:(IP n 3 1 (fun x:Int=>[Value.int .i64 x]) (L.Aa.xs.map Aq.Tables)).holds W:=hs.at (i:=3) rfl
 have hkn:=hf.kn;have hpn:=hf.pn;have hcn:=hf.cn
 refine⟨PX (by rw[hL.bar];omega) (by rw[hL.bar];omega),⟨Sv (fun _=>rfl) h0 (by rw[hL.pl];omega), ?_⟩,⟨Sv (fun _=>rfl) h1 (by rw[hL.cl];omega), ?_⟩, ?_⟩
 ·intro i hi
  have hi':i<c.Aa.xs.length:=by rw[←hL.pl];exact hi
  obtain⟨a,cp,e⟩:=hL.ps i hi'
  have ht:=QO hf i (by omega)
  have hn:=U3 (gd c.Aa.xs i)
  have hm:(gd L.Aa.xs i).Tables∈L.Aa.xs.map Aq.Tables:=List.mem_map_of_mem (by rw[Gv hi];exact List.getElem_mem hi)
  have hsl:=fam_sl (by intro _;rfl) h3 hm (by rw[e];simp only[GN,VN];omega)
  rw[e]at hsl ⊢
  refine⟨PX (by simp only[GN,CV];omega) (by simp only[GN,CV];omega),PX (by simp only[GN,CV];omega) (by simp only[GN,CV];omega),PX (by simp only[GN,CV];omega) (by simp only[GN,CV];omega),PX (by simp only[GN];omega) (by simp only[GN];omega),hsl, ?_⟩
  intro q hq
  have hq':q<Jr (gd c.Aa.xs i):=by simpa only[GN,VN]using hq
  show IC .i64 (gd _ _)
  have:gd (GN c i ⟨a,cp,FP c i (Jr (gd c.Aa.xs i))⟩).Tables.xs q=Ec c i+1+(q:Int):=YQ hq'
  rw[this]
  exact PX (by omega) (by omega)
 ·intro k hk
  have hk':k<c.Aj.xs.length:=by rw[←hL.cl];exact hk
  obtain⟨a,cp,e⟩:=hL.cs k hk'
  have hb:=Sz hf k (by omega)
  have hd:=hf.X7 hk'
  have hp0:CV c c.Aa.xs.length=c.Kernel*16+2+24*(c.Aa.xs.length:Int):=rfl
  have hpp:∀ i,i<c.Aa.xs.length→(gd c.Aa.xs i).Ap.xs.length≤8:=fun i hi=>Ol (hf.parts i hi)
  have hm:(gd L.Aj.xs k).DJ∈L.Aj.xs.map A8.DJ:=List.mem_map_of_mem (by rw[Gv hk];exact List.getElem_mem hk)
  have hsl:=fam_sl (by intro _;rfl) h2 hm (by rw[e];simp only[JF,UI];omega)
  have h1p:0<(Cj c (k:Int) true).length:=by omega
  have hsrc:=Xw (k:=(k:Int)) (b:=true) hpp hpn (gd (Cj c (k:Int) true) 0) (by rw[Gv h1p];exact List.getElem_mem _)
  rw[e]at hsl ⊢
  refine⟨PX (by simp only[JF];omega) (by simp only[JF];omega),PX (by simp only[JF];omega) (by simp only[JF];omega),PX (by simp only[JF];omega) (by simp only[JF];omega),PX (by simp only[JF];omega) (by simp only[JF];omega),hsl, ?_⟩
  intro q hq
  have hq':q<Kv c k:=by simpa only[JF,UI]using hq
  have e2:gd (JF c k ⟨a,cp,Ff c k (Kv c k)⟩).DJ.xs q=PV c k q:=YQ hq'
  have hdst:=Xw (k:=(k:Int)) (b:=false) hpp hpn (gd (Cj c (k:Int) false) q) (by rw[Gv hq'];exact List.getElem_mem _)
  have hdb:=dAt_bd hf hk' (show q≤4 by omega)
  rw[e2]
  exact⟨PX (by simp only[PV];omega) (by simp only[PV];omega),PX (by simp only[PV];omega) (by simp only[PV];omega),PX (by simp only[PV];omega) (by simp only[PV];omega)⟩
 have:=QO hf _ (Nat.le_refl _)
 exact PX (by rw[hL.fin];omega) (by rw[hL.fin];omega)
theorem of_no(w:World)(c:Ai)(hc:Ai.ok Any w c)(hok:Ej c=false):Calls Tryd.prog 18 #[.agg (Ai.arr c)] w fun e w'=>e = .returned (.tuple #[.agg #[.int .i64 0,.slice none 0 0,.slice none 0 0,.int .i64 0],.int .i64 150])∧CE (fun _=>False) w w':=by
 obtain⟨z,hz⟩:∃ z,z=w.heap.size:=⟨_,rfl⟩
 refine Cb (args:=[.agg (Ai.arr c)]) 148 ⟨w,z,[(Ak w)]⟩ Tryd.func18 rfl (by kernel_rfl) (by kernel_rfl) (Em hz) ?_
 refine DI [0] [(0,.agg (Ai.arr c))] ?_
 refine q_c 7 1 [] [[o0,o0,o0],[(an 7 1)]] [Qb z,Qb z,Qb z,Qb z,Qb z,Qb z,Qb z] [(1,pt z),(2,pt (z+1)),(16,.agg (Ai.arr c))] ⟨w,z+2,[(Ak w),(bk z (Ai.arr c) 26),(bk (z+1) #[i6 0,.slice none 0 0,.slice none 0 0,i6 0] 60)]⟩ rfl ⟨rfl,rfl,rfl,rfl,rfl,rfl,rfl,Ae⟩ ?_
 refine AY 37 #[.agg (Ai.arr c)] (some 17) (.bool false) (fun w1 hw1=>can_no w1 c (hc.ext (hw1.ext rfl) (fun _ h=>h)) hok) (fun n2 (hn3:z+2≤n2) => ?_)
 refine Bq 8 0 [1] [[o0],[o0,(an 4 2),o0]] [Qb (z+1),Qb (z+1),Qb (z+1),Qb (z+1)] [(2,pt (z+1)),(3,i6 150)] rfl ⟨rfl,rfl,rfl,rfl,Ae⟩ ?_
 refine Az [.at 2,.at 2,.at 2,.at 2] [Qb (z+1),Qb (z+1),Qb (z+1),Qb (z+1)] (.tuple #[.agg #[i6 0,.slice none 0 0,.slice none 0 0,i6 0],i6 150]) ⟨rfl,rfl,rfl,rfl,Ae⟩ ?_
 intro w4 hw4
 exact⟨rfl,AA hw4⟩
section
variable (n2:Nat)(c:Ai)(aP:Option Addr)(i cP:Nat)(ax100:Option Addr)(csG:List A8)(k:Nat)(y48:Gp)(aD:Option Addr)(cD j cp101:Nat)(ax20:Option Addr)(cp21 b50:Nat)(ax96:Option Addr)(y89:Gp)(cp97 n80:Nat)(w55 w36:World)(b119:Nat)(psG:List Aq)(cP2:Nat)(aC:Option Addr)(cC n9:Nat)(aP2:Option Addr)(w91:World)(z:Nat)(y34:AZ)(n25 p:Nat)(t n109:Nat)(y118:Ar)(aT:Option Addr)(cT:Nat)(ax134:Option Addr)(cp135 b111:Nat)(o112 b82:Nat)(o83 cp40:Nat)(b27 o28:Nat)(ax39:Option Addr)(w:World)
abbrev WF:=bk (n2+1) #[i6 (c.Kernel*16),.slice aP ((I8 c i).length) cP,.slice ax100 ((csG++[(⟨CX c k,(CX c k)+2,y48.partition,y48.port,(⟨aD,cD,Ff c k j⟩:Sl BH)⟩:A8)]).length) cp101,i6 0] 60
abbrev WP:Ch:= .blk (n2+1) (.cells #[i6 (c.Kernel*16),.slice ax20 ((I8 c i++[(⟨CV c i,(CV c i)+2,((CV c i)+2)+17,0,(⟨none,0,[]⟩:Sl Int)⟩:Aq)]).length) cp21,.slice none 0 0,i6 0] 60 (0,0)) true
abbrev U0:=bk b50 #[i6 (CX c k),i6 ((CX c k)+2),i6 y48.partition,i6 y48.port,.slice ax96 ((Ff c k j++[(⟨y89.partition,y89.port,Iy c k j⟩:BH)]).length) cp97] 91
abbrev Jn:=bk b50 #[i6 (CX c k),i6 ((CX c k)+2),i6 y48.partition,i6 y48.port,.slice aD ((Ff c k j).length) cD] 91
abbrev WS:=bk n80 #[i6 (CX c k),i6 ((CX c k)+2),i6 y48.partition,i6 y48.port,.slice aD ((Ff c k j).length) cD] 91
abbrev qzm6_5:Ch:= .blk w55.heap.size (.cells #[i6 (CX c k),i6 ((CX c k)+2),i6 y48.partition,i6 y48.port,.slice none 0 0] 91 (0,0)) true
abbrev qzm6_6:Ch:= .blk w36.heap.size (.cells #[i6 (CX c k),i6 ((CX c k)+2),i6 y48.partition,i6 y48.port,.slice none 0 0] 91 (0,0)) true
abbrev Ll:=bk (n2+1) #[i6 (c.Kernel*16),.slice (some ⟨b119,0,none⟩) psG.length cP2,.slice aC csG.length cC,i6 0] 60
abbrev WQ:=bk n9 #[i6 (CV c i),i6 ((CV c i)+2),i6 (((CV c i)+2)+17),i6 0,.slice none 0 0] 70
abbrev EO:=bk (n2+1) #[i6 (c.Kernel*16),.slice aP ((I8 c i).length) cP,.slice aC csG.length cC,i6 0] 60
abbrev Ho:=bk (n2+1) #[i6 (c.Kernel*16),.slice aP ((I8 c i).length) cP,.slice none 0 0,i6 0] 60
abbrev PD:=bk (n2+1) #[i6 (c.Kernel*16),.slice aP2 psG.length cP2,.slice aC csG.length cC,i6 0] 60
abbrev XU:Ch:= .blk w55.heap.size (.cells #[i6 0,i6 0,i6 0,i6 0,.slice none 0 0] 91 (0,0)) true
abbrev Ve:Ch:= .blk w36.heap.size (.cells #[i6 0,i6 0,i6 0,i6 0,.slice none 0 0] 91 (0,0)) true
abbrev RF:Ch:= .blk w91.heap.size (.cells #[i6 y89.partition,i6 y89.port,i6 (Iy c k j)] 99 (0,0)) true
abbrev CG:=bk (z+1) #[i6 0,.slice none 0 0,.slice none 0 0,i6 0] 60
abbrev Iz:=bk n2 #[i6 (((CX c k)+2)+(BL y34))] 3
abbrev RP:=bk n25 #[i6 ((Ec c p+1+(t:Int))+1)] 3
abbrev RJ:=bk n2 #[i6 ((((CV c i)+2)+17)+5)] 3
abbrev PG:=bk n2 #[i6 ((Iy c k j)+(portOf y34))] 3
abbrev Qr:=bk n25 #[i6 (Ec c p+1+(t:Int))] 3
abbrev Vt:=bk n2 #[i6 ((CX c k)+2)] 3
abbrev IK:=bk n2 #[i6 (Iy c k j)] 3
abbrev JR:=bk n109 (Ar.arr y118) 52
abbrev NS:=bk n25 #[i6 (Ec c p)] 3
abbrev Fh:=bk n2 #[i6 (CX c k)] 3
abbrev Ew:=bk n25 (AZ.arr y34) 115
abbrev NW:=bk n80 (Gp.arr y89) 121
abbrev C9:=bk z (Ai.arr c) 26
abbrev UY:=Cm z 70 5 Aq.cells (.slice (some ⟨b119,0,none⟩) psG.length cP2) ((psG.set p (⟨CV c p,CV c p+2,CV c p+2+17,Ec c p,(⟨aT,cT,FP c p t⟩:Sl Int)⟩:Aq)).set p (⟨CV c p,CV c p+2,CV c p+2+17,Ec c p,(⟨ax134,cp135,((FP c p t)++[Ec c p+1+(t:Int)])⟩:Sl Int)⟩:Aq))
abbrev VE:=Cm z 91 5 A8.cells (.slice ax100 ((csG++[(⟨CX c k,(CX c k)+2,y48.partition,y48.port,(⟨aD,cD,Ff c k j⟩:Sl BH)⟩:A8)]).length) cp101) (csG++[(⟨CX c k,(CX c k)+2,y48.partition,y48.port,(⟨aD,cD,Ff c k j⟩:Sl BH)⟩:A8)])
abbrev UW:=Cm z 70 5 Aq.cells (.slice ax20 ((I8 c i++[(⟨CV c i,(CV c i)+2,((CV c i)+2)+17,0,(⟨none,0,[]⟩:Sl Int)⟩:Aq)]).length) cp21) (I8 c i++[(⟨CV c i,(CV c i)+2,((CV c i)+2)+17,0,(⟨none,0,[]⟩:Sl Int)⟩:Aq)])
abbrev RX:=Cm z 99 3 BH.cells (.slice ax96 ((Ff c k j++[(⟨y89.partition,y89.port,Iy c k j⟩:BH)]).length) cp97) (Ff c k j++[(⟨y89.partition,y89.port,Iy c k j⟩:BH)])
abbrev Na:=Cm z 70 5 Aq.cells (.slice (some ⟨b119,0,none⟩) psG.length cP2) (psG.set p (⟨CV c p,CV c p+2,CV c p+2+17,Ec c p,(⟨aT,cT,FP c p t⟩:Sl Int)⟩:Aq))
abbrev Qi:=Cm z 3 1 (fun x:Int=>[i6 x]) (.slice aT ((FP c p t).length) cT) (FP c p t)
abbrev Jg:=IP z 3 1 (fun x:Int=>[i6 x]) ((psG.take p).map Aq.Tables)
abbrev DK:=Cm z 70 5 Aq.cells (.slice aP ((I8 c i).length) cP) (I8 c i)
abbrev IJ:=Cm z 99 3 BH.cells (.slice aD ((Ff c k j).length) cD) (Ff c k j)
abbrev OH:=Cm z 70 5 Aq.cells (.slice aP2 psG.length cP2) psG
abbrev DC:=Cm z 91 5 A8.cells (.slice aC csG.length cC) csG
abbrev D5:=IP z 99 3 BH.cells (csG.map A8.DJ)
abbrev Xf:Dk:=(42,.slice ax20 ((I8 c i++[(⟨CV c i,(CV c i)+2,((CV c i)+2)+17,0,(⟨none,0,[]⟩:Sl Int)⟩:Aq)]).length) cp21)
abbrev UV:Dk:=(73,.agg #[i6 (CX c k),i6 ((CX c k)+2),i6 y48.partition,i6 y48.port,.slice none 0 0])
abbrev Hg:Dk:=(109,.slice (some ⟨b111,o112,none⟩) c.Aa.xs.length c.Aa.cap)
abbrev KJ:Dk:=(74,.slice (some ⟨b82,o83,none⟩) ((Cj c (k:Int) false).length) cp40)
abbrev Dy:Dk:=(46,.slice (some ⟨b27,o28,none⟩) c.Aj.xs.length c.Aj.cap)
abbrev MW:Dk:=(109,.slice c.Aa.a c.Aa.xs.length c.Aa.cap)
abbrev G8:=(75,i6 (((Cj c (k:Int) false).length:Nat):Int))
abbrev IM:Dk:=(46,.slice c.Aj.a c.Aj.xs.length c.Aj.cap)
abbrev FV:Dk:=(13,.func (.func 77) #[] #[pt n25])
abbrev OQ:Dk:=(61,.func (.func 77) #[] #[pt n2])
abbrev Ci:Dk:=(4,.func (.func 77) #[] #[pt n2])
abbrev Jp:Dk:=(74,.slice ax39 ((Cj c (k:Int) false).length) cp40)
abbrev ED:Dk:=(9,.slice ax39 ((Cj c (k:Int) false).length) cp40)
abbrev FU:=(110,Ac c.Aa.xs.length)
abbrev FX:=(29,Ac c.Aa.xs.length)
abbrev Dh:=(47,Ac c.Aj.xs.length)
abbrev Q3:=(10,pt w55.heap.size)
abbrev MB:=(10,pt w36.heap.size)
abbrev J8:=(124,i6 ((Jr y118:Nat):Int))
abbrev RG:Dk:=(33,.slice aP ((I8 c i).length) cP)
abbrev BG:=(5,pt (n2+1))
abbrev Bz:=(2,pt (z+1))
abbrev Gy:=(10,pt b50)
abbrev DF:=(7,pt n25)
abbrev Qs:=[(Ak w),(C9 c z),(CG z),(Fh n2 c k),(Ll n2 c csG b119 psG cP2 aC cC),(Na c b119 psG cP2 z p t aT cT),(D5 csG z),(DC csG aC cC z),(Qr c n25 p t),(Jg psG z p),(JR n109 y118),(Qi c z p t aT cT)]
abbrev TW:=[(Ak w),(C9 c z),(CG z),(Iz n2 c k y34),(EO n2 c aP i cP csG aC cC),(DK c aP i cP z),(D5 csG z),(DC csG aC cC z),(Ew y34 n25),(mid (n25+1) w36),(qzm6_5 c k y48 w55)]
abbrev Tf:=[(Ak w),(C9 c z),(CG z),(Iz n2 c k y34),(EO n2 c aP i cP csG aC cC),(DK c aP i cP z),(D5 csG z),(DC csG aC cC z),(Ew y34 n25),(mid (n25+1) w36),(qzm6_6 c k y48 w36)]
abbrev Xv:=[(Ak w),(C9 c z),(CG z),(Vt n2 c k),(EO n2 c aP i cP csG aC cC),(DK c aP i cP z),(D5 csG z),(DC csG aC cC z),(Ew y34 n25),(mid (n25+1) w36),(Ve w36)]
abbrev OB:=[(Ak w),(C9 c z),(CG z),(Fh n2 c k),(PD n2 c csG psG cP2 aC cC aP2),(OH psG cP2 aP2 z),(D5 csG z),(DC csG aC cC z),(NS c n25 p),(Jg psG z p)]
abbrev Jb:=[(Ak w),(C9 c z),(CG z),(Fh n2 c k),(EO n2 c aP i cP csG aC cC),(DK c aP i cP z),(D5 csG z),(DC csG aC cC z)]
abbrev II:=[(Ak w),(C9 c z),(CG z),(bk n2 #[i6 (CV c i)] 3),(Ho n2 c aP i cP),(DK c aP i cP z)]
end
theorem of_yes(w:World)(c:Ai)(hc:Ai.ok Any w c)(hok:Ej c=true):Calls Tryd.prog 18 #[.agg (Ai.arr c)] w fun e w'=>∃ L:G9,e = .returned (.tuple #[.agg (G9.arr L),.int .i64 0])∧VG c L∧G9.ok (New w.heap.size) w' L∧WE w.heap.size w' L∧CE (fun _=>False) w w':=by
 obtain⟨z,hz⟩:∃ z,z=w.heap.size:=⟨_,rfl⟩
 refine Cb (args:=[.agg (Ai.arr c)]) 148 ⟨w,z,[(Ak w)]⟩ Tryd.func18 rfl (by kernel_rfl) (by kernel_rfl) (Em hz) ?_
 have hfine:=TM hok;have hkn:=hfine.kn;have hpn:=hfine.pn;have hcn:=hfine.cn
 refine DI [0] [(0,.agg (Ai.arr c))] ?_
 refine q_c 7 1 [] [[o0,o0,o0],[(an 7 1)]] [Qb z,Qb z,Qb z,Qb z,Qb z,Qb z,Qb z] [(1,pt z),(Bz z),(16,.agg (Ai.arr c))] ⟨w,z+2,[(Ak w),(C9 c z),(CG z)]⟩ rfl ⟨rfl,rfl,rfl,rfl,rfl,rfl,rfl,Ae⟩ ?_
 refine AY 37 #[.agg (Ai.arr c)] (some 17) (.bool true) (fun w1 hw1=>can_yes w1 c (hc.ext (hw1.ext rfl) (fun _ h=>h)) hok) (fun n2 (hn3:z+2≤n2) => ?_)
 refine Bq 7 3 [0] [[o0],[o0,(a1 1),(ov (i6 (c.Kernel*16)))]] [Qb z,Wr ((c.Kernel:Int)*16) (c.Kernel*16)] [(1,pt z),(Bz z),(22,i6 (c.Kernel*16))] rfl ⟨rfl,BQ,Ae⟩ ?_
 refine l_call [] [] 38 #[i6 (c.Kernel*16)] (some 23) Ae ?_
 intro w4 hw4
 refine Cb (args:=[i6 (c.Kernel*16)]) 4 ⟨w,n2,[(Ak w),(C9 c z),(CG z)]⟩ Tryd.func38 rfl (by kernel_rfl) (by kernel_rfl) hw4 ?_
 refine q_c 9 0 [] [[o0,o0],[o0,o0]] [] [(2,.func (.func 77) #[] #[pt n2])] ⟨w,n2+1,[(Ak w),(C9 c z),(CG z),(bk n2 #[i6 (c.Kernel*16)] 3)]⟩ rfl Ae ?_
 refine Az [] [] (.func (.func 77) #[] #[pt n2]) Ae ?_
 intro w5 hw5
 refine⟨_,_,rfl,hw5, ?_⟩
 refine Bq 4 1 [] [[o0],[o0]] [] [(1,pt z),(Bz z),(Ci n2),(24,.func (.func 77) #[] #[pt n2])] rfl Ae ?_
 refine l_call [] [] 77 #[i6 2,pt n2] (some 25) Ae ?_
 intro w6 hw6
 refine Cb (args:=[i6 2,pt n2]) 10 ⟨w,n2+1,[(Ak w),(C9 c z),(CG z),(bk n2 #[i6 (c.Kernel*16)] 3)]⟩ Tryd.func77 rfl (by kernel_rfl) (by kernel_rfl) hw6 ?_
 refine q_c 17 0 [] [[o0],[(a1 3),o0],[(a1 3),o0,(ov (i6 ((c.Kernel*16)+2))),(a1 3)],[o0,o0]] [Qb n2,Qb n2,Wr ((c.Kernel*16:Int)+2) ((c.Kernel*16)+2),Qb n2] [(3,i6 (c.Kernel*16))] ⟨w,n2+1,[(Ak w),(C9 c z),(CG z),(bk n2 #[i6 ((c.Kernel*16)+2)] 3)]⟩ rfl ⟨rfl,rfl,BQ,rfl,Ae⟩ ?_
 refine Az [] [] (i6 (c.Kernel*16)) Ae ?_
 intro w7 hw7
 refine⟨_,_,rfl,hw7, ?_⟩
 refine F8 8 0 [] [[o0,o0,(an 4 4)],[o0,(a1 1),o0,o0]] [Qb (n2+1),Qb (n2+1),Qb (n2+1),Qb (n2+1),Qb z] [(1,pt z),(Bz z),(Ci n2),(BG n2),(FX c),(30,i6 0)] ⟨w,n2+2,[(Ak w),(C9 c z),(CG z),(bk n2 #[i6 ((c.Kernel*16)+2)] 3),(bk (n2+1) #[i6 (c.Kernel*16),.slice none 0 0,.slice none 0 0,i6 0] 60)]⟩ rfl ⟨rfl,rfl,rfl,rfl,rfl,Ae⟩ ?_
 refine Pn z 70 5 Aq.cells ?_
 refine Du (fun m a w'=>∃ (n9:Nat) (i:Nat) (aP:Option Addr) (cP:Nat),m=c.Aa.xs.length - i∧n2+2≤n9∧(i≤c.Aa.xs.length)∧St 148 [(1,pt z),(Bz z),(Ci n2),(BG n2),(FX c),(30,Ac i)] [] ⟨w,n9,(II n2 c aP i cP z w)⟩ a w') (c.Aa.xs.length - 0) ?_ ?_
 ·intro a w' hs;exact⟨(n2+2),0,none,0,rfl,Nat.le_refl _,Nat.zero_le _,by(try dsimp only[Ho,CG,C9,DK,Ci,FX,BG,Bz,II]at hs ⊢);rw[show CV c 0=(c.Kernel*16)+2 from by unfold CV;omega];exact hs⟩
 rintro m a w' ⟨n9,i,aP,cP,rfl,hn8,hki,hs⟩
 refine(?_:G Tryd.prog 148 [(1,pt z),(Bz z),(Ci n2),(BG n2),(FX c),(30,Ac i)] [] ⟨w,n9,(II n2 c aP i cP z w)⟩ _ _ _) a w' hs
 clear hs a w'
 have hpA:CV c i=c.Kernel*16+2+24*(i:Int):=rfl
 have hpl0:(I8 c i).length=i:=WH
 refine CB ?_
 by_cases h10:(i:Int)<(c.Aa.xs.length:Int)
 ·refine Au 9 0 [1] [[oT]] [BT ((i:Int)<(c.Aa.xs.length:Int))] [(1,pt z),(Bz z),(Ci n2),(BG n2),(FX c),(30,Ac i),(31,.bool true)] rfl ⟨bt,Ae⟩ ?_
  refine DX 12 [0,1,2,4] [(Ak w),(C9 c z),(CG z),(Ho n2 c aP i cP)] rfl rfl ?_
  refine CU [(0,o0),(1,(a1 3)),(2,o0),(4,o0),(6,o0)] [1,2,4,5,29,30,33,34,36,38] [Qb (n2+1)] [true,true,true,false,true,false,true,false,false,false,false,false,false] [(1,pt z),(Bz z),(Ci n2),(BG n2),(FX c),(30,Ac i),(RG c aP i cP),(34,.func (.func 77) #[] #[pt n2]),(36,.func (.func 77) #[] #[pt n2]),(38,.func (.func 77) #[] #[pt n2])] ⟨rfl,Ae⟩ ?_
  refine Bl 3 ?_
  refine IG [] [] 77 #[i6 2,pt n2] (some 35) (by as_aux_lemma=>kernel_rfl) rfl rfl Ae ?_
  intro w11 hw11
  refine Cb (args:=[i6 2,pt n2]) 10 ⟨w,n9,(II n2 c aP i cP z w)⟩ Tryd.func77 rfl (by kernel_rfl) (by kernel_rfl) hw11 ?_
  refine q_c 17 0 [] [[o0],[(a1 3),o0],[(a1 3),o0,(ov (i6 ((CV c i)+2))),(a1 3)],[o0,o0]] [Qb n2,Qb n2,Wr ((CV c i:Int)+2) ((CV c i)+2),Qb n2] [(3,i6 (CV c i))] ⟨w,n9,[(Ak w),(C9 c z),(CG z),(bk n2 #[i6 ((CV c i)+2)] 3),(Ho n2 c aP i cP),(DK c aP i cP z)]⟩ rfl ⟨rfl,rfl,BQ,rfl,Ae⟩ ?_
  refine Az [] [] (i6 (CV c i)) Ae ?_
  intro w12 hw12
  have hs13:=hw12
  refine⟨_,_,rfl,hs13,.inr (fun c hc=>hs13.all c (by first | exact hc | exact EM (is:=[0,1,2,4]) rfl c hc)), ?_⟩
  refine Dw [1,2,4,5,29,30,33,36,38,35] [(1,pt z),(Bz z),(Ci n2),(BG n2),(FX c),(30,Ac i),(RG c aP i cP),(36,.func (.func 77) #[] #[pt n2]),(38,.func (.func 77) #[] #[pt n2]),(35,i6 (CV c i))] ?_
  refine Bl 5 ?_
  refine IG [] [] 77 #[i6 17,pt n2] (some 37) (by as_aux_lemma=>kernel_rfl) rfl rfl Ae ?_
  intro w14 hw14
  refine Cb (args:=[i6 17,pt n2]) 10 ⟨w,n9,[(Ak w),(C9 c z),(CG z),(bk n2 #[i6 ((CV c i)+2)] 3),(Ho n2 c aP i cP),(DK c aP i cP z)]⟩ Tryd.func77 rfl (by kernel_rfl) (by kernel_rfl) hw14 ?_
  refine q_c 17 0 [] [[o0],[(a1 3),o0],[(a1 3),o0,(ov (i6 (((CV c i)+2)+17))),(a1 3)],[o0,o0]] [Qb n2,Qb n2,Wr (((CV c i)+2:Int)+17) (((CV c i)+2)+17),Qb n2] [(3,i6 ((CV c i)+2))] ⟨w,n9,[(Ak w),(C9 c z),(CG z),(bk n2 #[i6 (((CV c i)+2)+17)] 3),(Ho n2 c aP i cP),(DK c aP i cP z)]⟩ rfl ⟨rfl,rfl,BQ,rfl,Ae⟩ ?_
  refine Az [] [] (i6 ((CV c i)+2)) Ae ?_
  intro w15 hw15
  have hs16:=hw15
  refine⟨_,_,rfl,hs16,.inr (fun c hc=>hs16.all c (by first | exact hc | exact EM (is:=[0,1,2,4]) rfl c hc)), ?_⟩
  refine Dw [1,2,4,5,29,30,33,38,35,37] [(1,pt z),(Bz z),(Ci n2),(BG n2),(FX c),(30,Ac i),(RG c aP i cP),(38,.func (.func 77) #[] #[pt n2]),(35,i6 (CV c i)),(37,i6 ((CV c i)+2))] ?_
  refine Bl 7 ?_
  refine IG [] [] 77 #[i6 5,pt n2] (some 39) (by as_aux_lemma=>kernel_rfl) rfl rfl Ae ?_
  intro w17 hw17
  refine Cb (args:=[i6 5,pt n2]) 10 ⟨w,n9,[(Ak w),(C9 c z),(CG z),(bk n2 #[i6 (((CV c i)+2)+17)] 3),(Ho n2 c aP i cP),(DK c aP i cP z)]⟩ Tryd.func77 rfl (by kernel_rfl) (by kernel_rfl) hw17 ?_
  refine q_c 17 0 [] [[o0],[(a1 3),o0],[(a1 3),o0,(ov (i6 ((((CV c i)+2)+17)+5))),(a1 3)],[o0,o0]] [Qb n2,Qb n2,Wr ((((CV c i)+2)+17:Int)+5) ((((CV c i)+2)+17)+5),Qb n2] [(3,i6 (((CV c i)+2)+17))] ⟨w,n9,[(Ak w),(C9 c z),(CG z),(RJ n2 c i),(Ho n2 c aP i cP),(DK c aP i cP z)]⟩ rfl ⟨rfl,rfl,BQ,rfl,Ae⟩ ?_
  refine Az [] [] (i6 (((CV c i)+2)+17)) Ae ?_
  intro w18 hw18
  have hs19:=hw18
  refine⟨_,_,rfl,hs19,.inr (fun c hc=>hs19.all c (by first | exact hc | exact EM (is:=[0,1,2,4]) rfl c hc)), ?_⟩
  refine Dw [1,2,4,5,29,30,33,35,37,39] [(1,pt z),(Bz z),(Ci n2),(BG n2),(FX c),(30,Ac i),(RG c aP i cP),(35,i6 (CV c i)),(37,i6 ((CV c i)+2)),(39,i6 (((CV c i)+2)+17))] ?_
  refine CU [(8,o0)] [1,2,4,5,29,30,33,40] [] (D7 9 4) [(1,pt z),(Bz z),(Ci n2),(BG n2),(FX c),(30,Ac i),(RG c aP i cP),(40,.agg #[i6 (CV c i),i6 ((CV c i)+2),i6 (((CV c i)+2)+17),i6 0,.slice none 0 0])] Ae ?_
  refine Bl 9 ?_
  refine BA o0 [1,2,4,5,29,30,33,41] [] [(1,pt z),(Bz z),(Ci n2),(BG n2),(FX c),(30,Ac i),(RG c aP i cP),(41,.slice (some ⟨n9,0,none⟩) 1 1)] ⟨w,n9+1,[(Ak w),(C9 c z),(CG z),(RJ n2 c i),(Ho n2 c aP i cP),(DK c aP i cP z),(WQ c i n9)]⟩ [0,1,2,4] Ae (.inr rfl) ?_
  refine Bl 10 ?_
  refine PO z 5 6 (I8 c i) [(⟨CV c i,(CV c i)+2,((CV c i)+2)+17,0,(⟨none,0,[]⟩:Sl Int)⟩:Aq)] Aq.cells 70 5 56 (.slice aP ((I8 c i).length) cP) n9 1 1 #[i6 (CV c i),i6 ((CV c i)+2),i6 (((CV c i)+2)+17),i6 0,.slice none 0 0] 70 (0,0) true (some 42) [0,1,2,4] (by simp only[List.length_cons,List.length_nil];omega) (show z≤n9+1 by omega) (.inr ⟨rfl,rfl⟩) (fun ax20 cp21 n22 (hn23:n9+1≤n22) => ?_)
  refine Dw [1,2,4,5,29,30,42] [(1,pt z),(Bz z),(Ci n2),(BG n2),(FX c),(30,Ac i),(Xf c i ax20 cp21)] ?_
  refine CU [(11,o0)] [1,2,4,5,29,30,42,43] [] (D7 12 1) [(1,pt z),(Bz z),(Ci n2),(BG n2),(FX c),(30,Ac i),(Xf c i ax20 cp21),(43,.pointer (some ⟨n2+1,1,none⟩))] Ae ?_
  refine Bl 12 ?_
  refine BA (a1 4) [1,2,4,5,29,30] [Qb (n2+1)] [(1,pt z),(Bz z),(Ci n2),(BG n2),(FX c),(30,Ac i)] ⟨w,n22,[(Ak w),(C9 c z),(CG z),(RJ n2 c i),(WP n2 c i ax20 cp21),(UW c i ax20 cp21 z),(WQ c i n9)]⟩ [] ⟨rfl,Ae⟩ (.inl rfl) ?_
  refine DU 13 [0,1,2,3,4,5,6] [(Ak w),(C9 c z),(CG z),(RJ n2 c i),(WP n2 c i ax20 cp21),(UW c i ax20 cp21 z),(WQ c i n9)] rfl rfl ?_
  refine CO ?_
  refine LX 4 0 [] [[(ov (i6 ((i+1:Nat):Int))),o0]] [Wr ((i:Int)+1) (((i+1:Nat):Int))] [(1,pt z),(Bz z),(Ci n2),(BG n2),(FX c),(30,i6 ((i+1:Nat):Int))] rfl ⟨BQ,Ae⟩ ?_
  refine BX [0,1,2,3,4,5] [(Ak w),(C9 c z),(CG z),(RJ n2 c i),(WP n2 c i ax20 cp21),(UW c i ax20 cp21 z)] rfl rfl ?_
  refine BK [1,2,4,5,29,30] [(1,pt z),(Bz z),(Ci n2),(BG n2),(FX c),(30,i6 ((i+1:Nat):Int))] ?_
  refine BO (fun a w' hs=>⟨c.Aa.xs.length - (i+1),by omega,n22,(i+1),ax20,cp21,rfl,by omega,by omega,by(try dsimp only[WP,WQ,Ho,CG,RJ,C9,UW,DK,Xf,Ci,FX,RG,BG,Bz,II]at hs ⊢);rw[show CV c (i+1)=(((CV c i)+2)+17)+5 from by unfold CV;omega,placesUp_succ];exact hs⟩)
 refine Au 16 0 [0] [[oF],[o0,(a1 1),o0,o0]] [BF ((i:Int)<(c.Aa.xs.length:Int)),Qb z] [(1,pt z),(Bz z),(Ci n2),(BG n2),(IM c),(Dh c),(48,i6 0)] rfl ⟨bf,rfl,Ae⟩ ?_
 refine g_fam0 z 99 3 BH.cells ?_
 refine Pn z 91 5 A8.cells ?_
 refine Du (fun m a w'=>∃ (n25:Nat) (k:Nat) (csG:List A8) (aC:Option Addr) (cC:Nat),m=c.Aj.xs.length - k∧n9≤n25∧(k≤c.Aj.xs.length)∧(csG.length=k)∧(∀ q,q<k→∃ a cp,gd csG q=JF c q ⟨a,cp,Ff c q (Kv c q)⟩)∧St 148 [(1,pt z),(Bz z),(Ci n2),(BG n2),(IM c),(Dh c),(48,Ac k)] [] ⟨w,n25,(Jb n2 c aP i cP csG k aC cC z w)⟩ a w') (c.Aj.xs.length - 0) ?_ ?_
 ·intro a w' hs;exact⟨n9,0,([]),none,0,rfl,Nat.le_refl _,Nat.zero_le _,rfl,fun q hq=>absurd hq (Nat.not_lt_zero q),by(try dsimp only[WP,WQ,EO,Ho,CG,RJ,Fh,C9,UW,DK,DC,D5,Xf,IM,Ci,FX,Dh,BG,Bz,Jb,II]at hs ⊢);rw[show CX c 0=CV c i from by rw[show i=c.Aa.xs.length by omega];rfl];exact hs⟩
 rintro m a w' ⟨n25,k,csG,aC,cC,rfl,hn24,hkk,hcl,hcs,hs⟩
 refine(?_:G Tryd.prog 148 [(1,pt z),(Bz z),(Ci n2),(BG n2),(IM c),(Dh c),(48,Ac k)] [] ⟨w,n25,(Jb n2 c aP i cP csG k aC cC z w)⟩ _ _ _) a w' hs
 clear hs a w'
 have hcb:=Sz hfine k (by omega)
 have hp0:CV c c.Aa.xs.length=c.Kernel*16+2+24*(c.Aa.xs.length:Int):=rfl
 refine CB ?_
 by_cases h26:(k:Int)<(c.Aj.xs.length:Int)
 ·refine Au 10 0 [1] [[oT]] [BT ((k:Int)<(c.Aj.xs.length:Int))] [(1,pt z),(Bz z),(Ci n2),(BG n2),(IM c),(Dh c),(48,Ac k),(49,.bool true)] rfl ⟨bt,Ae⟩ ?_
  obtain⟨b27,o28,ha29,hF31,hc30⟩:=(hc.Aj).1.all (show 0<c.Aj.xs.length by omega)
  replace ha29:c.Aj.a=some ⟨b27,o28,none⟩:=ha29
  refine LH [(1,pt z),(Bz z),(Ci n2),(BG n2),(Dy c b27 o28),(Dh c),(48,Ac k),(49,.bool true)] (by(try dsimp only[EO,Ho,CG,Fh,C9,DK,DC,D5,Dy,IM,Ci,FX,Dh,BG,Bz,Jb,II]);simp only[ha29]) ?_
  have hc32:=hc30 k (show k<c.Aj.xs.length by omega)
  have he33:=(hc.Aj).2 k (show k<c.Aj.xs.length by omega)
  obtain⟨y34,hy34⟩:∃ y_,y_=gd c.Aj.xs k:=⟨_,rfl⟩
  rw[←hy34]at he33 hc32
  have hEd:=hfine.X7 (k:=k) (by omega);have hsb:=NH y34;have hpb:=TU y34;have hlb:=ZT hfine (show k<c.Aj.xs.length by omega);have hEn:Kv c k=(Cj c (k:Int) false).length:=rfl
  refine q_c 5 2 [] [[o0,(oi k),(ol 0 (AZ.arr y34)),o0,o0,(an 3 8)],[(an 7 1),o0]] [CW k,k<c.Aj.xs.length,Ce,GU w b27 (o28+k*3) (AZ.arr y34),Qb n25,Qb n25,Qb n25,Qb z,Qb z,Qb z,Qb z,Qb z,Qb z,Qb z] [(1,pt z),(Bz z),(Ci n2),(BG n2),(Dy c b27 o28),(Dh c),(48,Ac k),(DF n25),(54,.agg (Ai.arr c)),(55,Ac k)] ⟨w,n25+1,[(Ak w),(C9 c z),(CG z),(Fh n2 c k),(EO n2 c aP i cP csG aC cC),(DK c aP i cP z),(D5 csG z),(DC csG aC cC z),(Ew y34 n25)]⟩ rfl ⟨rfl,(by omega),rfl,Ei hc32,rfl,rfl,rfl,rfl,rfl,rfl,rfl,rfl,rfl,rfl,Ae⟩ ?_
  refine l_call [] [] 39 #[.agg (Ai.arr c),Ac k] (some 56) Ae ?_
  intro w35 hw35
  refine(Rj w35 c (k:Int) (hc.ext (hw35.ext rfl) (fun _ h=>h)) (by omega) (fun i hi=>Ol (hfine.parts i hi))).mono ?_
  rintro e w36 ⟨ax37,cp38,ax39,cp40,rfl,hSw36,hDw36,hkw36⟩
  have hnw36:n25+1≤w36.heap.size:=I5 hw35 hkw36
  rw[hw35.size]at hSw36 hDw36
  refine⟨_,_,rfl,hw35.Ud hkw36, ?_⟩
  refine Bq 3 0 [] [[o0,o0,o0,o0,o0]] [] [(1,pt z),(Bz z),(Ci n2),(BG n2),(Dy c b27 o28),(Dh c),(48,Ac k),(DF n25),(8,.slice ax37 ((Cj c (k:Int) true).length) cp38),(ED c k cp40 ax39)] rfl Ae ?_
  obtain⟨b41,o42,ha43,hF45,hc44⟩:=((⟨hSw36,VJ hfine⟩:La Gp.cells 2 Gp.ok _ _ _)).1.all (show 0<(Cj c (k:Int) true).length by omega)
  replace ha43:ax37=some ⟨b41,o42,none⟩:=ha43
  refine LH [(1,pt z),(Bz z),(Ci n2),(BG n2),(Dy c b27 o28),(Dh c),(48,Ac k),(DF n25),(8,.slice (some ⟨b41,o42,none⟩) ((Cj c (k:Int) true).length) cp38),(ED c k cp40 ax39)] (by(try dsimp only[EO,Ho,CG,Fh,Ew,C9,DK,DC,D5,Dy,IM,Ci,ED,FX,Dh,BG,Bz,DF,Jb,II]);simp only[ha43]) ?_
  have hc46:=hc44 0 (show 0<(Cj c (k:Int) true).length by omega)
  have he47:=((⟨hSw36,VJ hfine⟩:La Gp.cells 2 Gp.ok _ _ _)).2 0 (show 0<(Cj c (k:Int) true).length by omega)
  obtain⟨y48,hy48⟩:∃ y_,y_=gd (⟨ax37,cp38,Cj c (k:Int) true⟩:Sl Gp).xs 0:=⟨_,rfl⟩
  rw[←hy48]at he47 hc46
  refine DX 16 [0,1,2,4,5,6,7,8,9] [(Ak w),(C9 c z),(CG z),(EO n2 c aP i cP csG aC cC),(DK c aP i cP z),(D5 csG z),(DC csG aC cC z),(Ew y34 n25),(mid (n25+1) w36)] rfl rfl ?_
  refine CU [(0,o0),(2,o0),(3,(an 3 7)),(6,o0),(7,(oi 0)),(8,o0),(9,(oa [.via 8 (i6 y48.partition)])),(10,o0),(11,(oi 0)),(12,o0),(13,(oa [.via 8 (i6 y48.port)]))] [1,2,4,5,46,47,48,7,9,59,61,62,68,72] [Qb n25,Qb n25,Qb n25,(0:Int)=((0:Nat):Int),0<(Cj c (k:Int) true).length,Ce,∀ w',Ch.holds (mid (n25+1) w36) w'→w'.cell? ⟨b41,o42,none⟩=some (i6 y48.partition),(0:Int)=((0:Nat):Int),0<(Cj c (k:Int) true).length,Ce,∀ w',Ch.holds (mid (n25+1) w36) w'→w'.cell? ⟨b41,o42+1,none⟩=some (i6 y48.port)] [true,false,true,true,false,false,true,true,true,true,true,true,true,true,false,false,false] [(1,pt z),(Bz z),(Ci n2),(BG n2),(Dy c b27 o28),(Dh c),(48,Ac k),(DF n25),(ED c k cp40 ax39),(59,.func (.func 77) #[] #[pt n2]),(OQ n2),(62,.agg (AZ.arr y34)),(68,i6 y48.partition),(72,i6 y48.port)] ⟨rfl,rfl,rfl,rfl,(by omega),rfl,MF hF45 (hc46 0 _ rfl),rfl,(by omega),rfl,MF hF45 (hc46 1 _ rfl),Ae⟩ ?_
  refine Qd (fun x:{p:Nat×Nat // w36.heap.size≤p.1∧w36.heap.size≤p.2}=>([(1,pt z),(Bz z),(Ci n2),(BG n2),(Dy c b27 o28),(Dh c),(48,Ac k),(DF n25),(ED c k cp40 ax39),(10,pt x.1.2)],⟨w,x.1.1,[(Ak w),(C9 c z),(CG z),(Iz n2 c k y34),(EO n2 c aP i cP csG aC cC),(DK c aP i cP z),(D5 csG z),(DC csG aC cC z),(Ew y34 n25),(mid (n25+1) w36),(.blk x.1.2 (.cells #[i6 (CX c k),i6 ((CX c k)+2),i6 y48.partition,i6 y48.port,.slice none 0 0] 91 (0,0)) true)]⟩)) (fun hK => ?_) ?_
  ·refine Jk [1,15] ?_
   refine List.forall_mem_cons.2 ⟨?_,List.forall_mem_cons.2 ⟨?_,fun _ h=>absurd h List.not_mem_nil⟩⟩
   ·refine IG [] [] 77 #[i6 2,pt n2] (some 60) (by as_aux_lemma=>kernel_rfl) rfl rfl Ae ?_
    intro w51 hw51
    refine Cb (args:=[i6 2,pt n2]) 10 ⟨w,w36.heap.size,[(Ak w),(C9 c z),(CG z),(Fh n2 c k),(EO n2 c aP i cP csG aC cC),(DK c aP i cP z),(D5 csG z),(DC csG aC cC z),(Ew y34 n25),(mid (n25+1) w36)]⟩ Tryd.func77 rfl (by kernel_rfl) (by kernel_rfl) hw51 ?_
    refine q_c 17 0 [] [[o0],[(a1 3),o0],[(a1 3),o0,(ov (i6 ((CX c k)+2))),(a1 3)],[o0,o0]] [Qb n2,Qb n2,Wr ((CX c k:Int)+2) ((CX c k)+2),Qb n2] [(3,i6 (CX c k))] ⟨w,w36.heap.size,[(Ak w),(C9 c z),(CG z),(Vt n2 c k),(EO n2 c aP i cP csG aC cC),(DK c aP i cP z),(D5 csG z),(DC csG aC cC z),(Ew y34 n25),(mid (n25+1) w36)]⟩ rfl ⟨rfl,rfl,BQ,rfl,Ae⟩ ?_
    refine Az [] [] (i6 (CX c k)) Ae ?_
    intro w52 hw52
    have hs53:=hw52
    refine⟨_,_,rfl,hs53,.inr (fun c hc=>hs53.all c (by first | exact hc | exact EM (is:=[0,1,2,4,5,6,7,8,9]) rfl c hc)), ?_⟩
    refine Dw [1,2,4,5,46,47,48,7,9,61,62,68,72,60] [(1,pt z),(Bz z),(Ci n2),(BG n2),(Dy c b27 o28),(Dh c),(48,Ac k),(DF n25),(ED c k cp40 ax39),(OQ n2),(62,.agg (AZ.arr y34)),(68,i6 y48.partition),(72,i6 y48.port),(60,i6 (CX c k))] ?_
    refine Jk [4,15] ?_
    refine List.forall_mem_cons.2 ⟨?_,List.forall_mem_cons.2 ⟨?_,fun _ h=>absurd h List.not_mem_nil⟩⟩
    ·refine IG [] [] 40 #[.agg (AZ.arr y34)] (some 63) (by as_aux_lemma=>kernel_rfl) rfl rfl Ae ?_
     intro w54 hw54
     refine(PZ w54 y34 (he33.ext (hw54.ext rfl) (fun _ h=>h))).mono ?_
     rintro e w55 ⟨rfl,hkw55⟩
     have hnw55:w36.heap.size≤w55.heap.size:=I5 hw54 hkw55
     have hs56:=hw54.keeps hkw55
     refine⟨_,_,rfl,hs56,.inr (fun c hc=>hs56.all c (by first | exact hc | exact EM (is:=[0,1,2,4,5,6,7,8,9]) rfl c hc)), ?_⟩
     refine Dw [1,2,4,5,46,47,48,7,9,61,68,72,60,63] [(1,pt z),(Bz z),(Ci n2),(BG n2),(Dy c b27 o28),(Dh c),(48,Ac k),(DF n25),(ED c k cp40 ax39),(OQ n2),(68,i6 y48.partition),(72,i6 y48.port),(60,i6 (CX c k)),(63,i6 (BL y34))] ?_
     refine Jk [5,15] ?_
     refine List.forall_mem_cons.2 ⟨?_,List.forall_mem_cons.2 ⟨?_,fun _ h=>absurd h List.not_mem_nil⟩⟩
     ·refine IG [] [] 77 #[i6 (BL y34),pt n2] (some 64) (by as_aux_lemma=>kernel_rfl) rfl rfl Ae ?_
      intro w57 hw57
      refine Cb (args:=[i6 (BL y34),pt n2]) 10 ⟨w,w55.heap.size,[(Ak w),(C9 c z),(CG z),(Vt n2 c k),(EO n2 c aP i cP csG aC cC),(DK c aP i cP z),(D5 csG z),(DC csG aC cC z),(Ew y34 n25),(mid (n25+1) w36)]⟩ Tryd.func77 rfl (by kernel_rfl) (by kernel_rfl) hw57 ?_
      refine q_c 17 0 [] [[o0],[(a1 3),o0],[(a1 3),o0,(ov (i6 (((CX c k)+2)+(BL y34)))),(a1 3)],[o0,o0]] [Qb n2,Qb n2,Wr (((CX c k)+2:Int)+(BL y34)) (((CX c k)+2)+(BL y34)),Qb n2] [(3,i6 ((CX c k)+2))] ⟨w,w55.heap.size,[(Ak w),(C9 c z),(CG z),(Iz n2 c k y34),(EO n2 c aP i cP csG aC cC),(DK c aP i cP z),(D5 csG z),(DC csG aC cC z),(Ew y34 n25),(mid (n25+1) w36)]⟩ rfl ⟨rfl,rfl,BQ,rfl,Ae⟩ ?_
      refine Az [] [] (i6 ((CX c k)+2)) Ae ?_
      intro w58 hw58
      have hs59:=hw58
      refine⟨_,_,rfl,hs59,.inr (fun c hc=>hs59.all c (by first | exact hc | exact EM (is:=[0,1,2,4,5,6,7,8,9]) rfl c hc)), ?_⟩
      refine Dw [1,2,4,5,46,47,48,7,9,68,72,60,64] [(1,pt z),(Bz z),(Ci n2),(BG n2),(Dy c b27 o28),(Dh c),(48,Ac k),(DF n25),(ED c k cp40 ax39),(68,i6 y48.partition),(72,i6 y48.port),(60,i6 (CX c k)),(64,i6 ((CX c k)+2))] ?_
      refine CU [(14,o0)] [1,2,4,5,46,47,48,7,9,73] [] (D7 15 2) [(1,pt z),(Bz z),(Ci n2),(BG n2),(Dy c b27 o28),(Dh c),(48,Ac k),(DF n25),(ED c k cp40 ax39),(UV c k y48)] Ae ?_
      refine Bl 15 ?_
      refine BA o0 [1,2,4,5,46,47,48,7,9,73,10] [] [(1,pt z),(Bz z),(Ci n2),(BG n2),(Dy c b27 o28),(Dh c),(48,Ac k),(DF n25),(ED c k cp40 ax39),(UV c k y48),(Q3 w55)] ⟨w,w55.heap.size+1,[(Ak w),(C9 c z),(CG z),(Iz n2 c k y34),(EO n2 c aP i cP csG aC cC),(DK c aP i cP z),(D5 csG z),(DC csG aC cC z),(Ew y34 n25),(mid (n25+1) w36),(XU w55)]⟩ [0,1,2,4,5,6,7,8,9] Ae (.inr rfl) ?_
      refine Bl 16 ?_
      refine BA (an 5 10) [1,2,4,5,46,47,48,7,9,10] [Qb w55.heap.size,Qb w55.heap.size,Qb w55.heap.size,Qb w55.heap.size,Qb w55.heap.size] [(1,pt z),(Bz z),(Ci n2),(BG n2),(Dy c b27 o28),(Dh c),(48,Ac k),(DF n25),(ED c k cp40 ax39),(Q3 w55)] ⟨w,w55.heap.size+1,(TW n2 c aP i cP csG k y48 w55 w36 aC cC z y34 n25 w)⟩ [] ⟨rfl,rfl,rfl,rfl,rfl,Ae⟩ (.inl rfl) ?_
      refine DU 17 [0,1,2,3,4,5,6,7,8,9,10] (TW n2 c aP i cP csG k y48 w55 w36 aC cC z y34 n25 w) rfl rfl ?_
      refine CO ?_
      refine BK [1,2,4,5,46,47,48,7,9,10] [(1,pt z),(Bz z),(Ci n2),(BG n2),(Dy c b27 o28),(Dh c),(48,Ac k),(DF n25),(ED c k cp40 ax39),(Q3 w55)] ?_
      refine BX [0,1,2,3,4,5,6,7,8,9,10] (TW n2 c aP i cP csG k y48 w55 w36 aC cC z y34 n25 w) rfl rfl ?_
      exact hK ⟨(w55.heap.size+1,w55.heap.size),by first | omega | (dsimp only;omega)⟩
     refine BA o0 [1,2,4,5,46,47,48,7,9,61,68,72,60,63,10] [] [(1,pt z),(Bz z),(Ci n2),(BG n2),(Dy c b27 o28),(Dh c),(48,Ac k),(DF n25),(ED c k cp40 ax39),(OQ n2),(68,i6 y48.partition),(72,i6 y48.port),(60,i6 (CX c k)),(63,i6 (BL y34)),(Q3 w55)] ⟨w,w55.heap.size+1,[(Ak w),(C9 c z),(CG z),(Vt n2 c k),(EO n2 c aP i cP csG aC cC),(DK c aP i cP z),(D5 csG z),(DC csG aC cC z),(Ew y34 n25),(mid (n25+1) w36),(XU w55)]⟩ [0,1,2,4,5,6,7,8,9] Ae (.inr rfl) ?_
     refine Bl 5 ?_
     refine IG [] [] 77 #[i6 (BL y34),pt n2] (some 64) (by as_aux_lemma=>kernel_rfl) rfl rfl Ae ?_
     intro w60 hw60
     refine Cb (args:=[i6 (BL y34),pt n2]) 10 ⟨w,w55.heap.size+1,[(Ak w),(C9 c z),(CG z),(Vt n2 c k),(EO n2 c aP i cP csG aC cC),(DK c aP i cP z),(D5 csG z),(DC csG aC cC z),(Ew y34 n25),(mid (n25+1) w36),(XU w55)]⟩ Tryd.func77 rfl (by kernel_rfl) (by kernel_rfl) hw60 ?_
     refine q_c 17 0 [] [[o0],[(a1 3),o0],[(a1 3),o0,(ov (i6 (((CX c k)+2)+(BL y34)))),(a1 3)],[o0,o0]] [Qb n2,Qb n2,Wr (((CX c k)+2:Int)+(BL y34)) (((CX c k)+2)+(BL y34)),Qb n2] [(3,i6 ((CX c k)+2))] ⟨w,w55.heap.size+1,[(Ak w),(C9 c z),(CG z),(Iz n2 c k y34),(EO n2 c aP i cP csG aC cC),(DK c aP i cP z),(D5 csG z),(DC csG aC cC z),(Ew y34 n25),(mid (n25+1) w36),(XU w55)]⟩ rfl ⟨rfl,rfl,BQ,rfl,Ae⟩ ?_
     refine Az [] [] (i6 ((CX c k)+2)) Ae ?_
     intro w61 hw61
     have hs62:=hw61
     refine⟨_,_,rfl,hs62,.inr (fun c hc=>hs62.all c (by first | exact hc | exact EM (is:=[0,1,2,4,5,6,7,8,9]) rfl c hc)), ?_⟩
     refine Dw [1,2,4,5,46,47,48,7,9,68,72,60,10,64] [(1,pt z),(Bz z),(Ci n2),(BG n2),(Dy c b27 o28),(Dh c),(48,Ac k),(DF n25),(ED c k cp40 ax39),(68,i6 y48.partition),(72,i6 y48.port),(60,i6 (CX c k)),(Q3 w55),(64,i6 ((CX c k)+2))] ?_
     refine CU [(14,o0)] [1,2,4,5,46,47,48,7,9,10,73] [] (D7 16 1) [(1,pt z),(Bz z),(Ci n2),(BG n2),(Dy c b27 o28),(Dh c),(48,Ac k),(DF n25),(ED c k cp40 ax39),(Q3 w55),(UV c k y48)] Ae ?_
     refine Bl 16 ?_
     refine BA (an 5 10) [1,2,4,5,46,47,48,7,9,10] [Qb w55.heap.size,Qb w55.heap.size,Qb w55.heap.size,Qb w55.heap.size,Qb w55.heap.size] [(1,pt z),(Bz z),(Ci n2),(BG n2),(Dy c b27 o28),(Dh c),(48,Ac k),(DF n25),(ED c k cp40 ax39),(Q3 w55)] ⟨w,w55.heap.size+1,(TW n2 c aP i cP csG k y48 w55 w36 aC cC z y34 n25 w)⟩ [] ⟨rfl,rfl,rfl,rfl,rfl,Ae⟩ (.inl rfl) ?_
     refine DU 17 [0,1,2,3,4,5,6,7,8,9,10] (TW n2 c aP i cP csG k y48 w55 w36 aC cC z y34 n25 w) rfl rfl ?_
     refine CO ?_
     refine BK [1,2,4,5,46,47,48,7,9,10] [(1,pt z),(Bz z),(Ci n2),(BG n2),(Dy c b27 o28),(Dh c),(48,Ac k),(DF n25),(ED c k cp40 ax39),(Q3 w55)] ?_
     refine BX [0,1,2,3,4,5,6,7,8,9,10] (TW n2 c aP i cP csG k y48 w55 w36 aC cC z y34 n25 w) rfl rfl ?_
     exact hK ⟨(w55.heap.size+1,w55.heap.size),by first | omega | (dsimp only;omega)⟩
    refine BA o0 [1,2,4,5,46,47,48,7,9,61,62,68,72,60,10] [] [(1,pt z),(Bz z),(Ci n2),(BG n2),(Dy c b27 o28),(Dh c),(48,Ac k),(DF n25),(ED c k cp40 ax39),(OQ n2),(62,.agg (AZ.arr y34)),(68,i6 y48.partition),(72,i6 y48.port),(60,i6 (CX c k)),(MB w36)] ⟨w,w36.heap.size+1,(Xv n2 c aP i cP csG k w36 aC cC z y34 n25 w)⟩ [0,1,2,4,5,6,7,8,9] Ae (.inr rfl) ?_
    refine Bl 4 ?_
    refine IG [] [] 40 #[.agg (AZ.arr y34)] (some 63) (by as_aux_lemma=>kernel_rfl) rfl rfl Ae ?_
    intro w63 hw63
    refine(PZ w63 y34 (he33.ext (hw63.ext rfl) (fun _ h=>h))).mono ?_
    rintro e w64 ⟨rfl,hkw64⟩
    have hnw64:w36.heap.size+1≤w64.heap.size:=I5 hw63 hkw64
    have hs65:=hw63.keeps hkw64
    refine⟨_,_,rfl,hs65,.inr (fun c hc=>hs65.all c (by first | exact hc | exact EM (is:=[0,1,2,4,5,6,7,8,9]) rfl c hc)), ?_⟩
    refine Dw [1,2,4,5,46,47,48,7,9,61,68,72,60,10,63] [(1,pt z),(Bz z),(Ci n2),(BG n2),(Dy c b27 o28),(Dh c),(48,Ac k),(DF n25),(ED c k cp40 ax39),(OQ n2),(68,i6 y48.partition),(72,i6 y48.port),(60,i6 (CX c k)),(MB w36),(63,i6 (BL y34))] ?_
    refine Bl 5 ?_
    refine IG [] [] 77 #[i6 (BL y34),pt n2] (some 64) (by as_aux_lemma=>kernel_rfl) rfl rfl Ae ?_
    intro w66 hw66
    refine Cb (args:=[i6 (BL y34),pt n2]) 10 ⟨w,w64.heap.size,(Xv n2 c aP i cP csG k w36 aC cC z y34 n25 w)⟩ Tryd.func77 rfl (by kernel_rfl) (by kernel_rfl) hw66 ?_
    refine q_c 17 0 [] [[o0],[(a1 3),o0],[(a1 3),o0,(ov (i6 (((CX c k)+2)+(BL y34)))),(a1 3)],[o0,o0]] [Qb n2,Qb n2,Wr (((CX c k)+2:Int)+(BL y34)) (((CX c k)+2)+(BL y34)),Qb n2] [(3,i6 ((CX c k)+2))] ⟨w,w64.heap.size,[(Ak w),(C9 c z),(CG z),(Iz n2 c k y34),(EO n2 c aP i cP csG aC cC),(DK c aP i cP z),(D5 csG z),(DC csG aC cC z),(Ew y34 n25),(mid (n25+1) w36),(Ve w36)]⟩ rfl ⟨rfl,rfl,BQ,rfl,Ae⟩ ?_
    refine Az [] [] (i6 ((CX c k)+2)) Ae ?_
    intro w67 hw67
    have hs68:=hw67
    refine⟨_,_,rfl,hs68,.inr (fun c hc=>hs68.all c (by first | exact hc | exact EM (is:=[0,1,2,4,5,6,7,8,9]) rfl c hc)), ?_⟩
    refine Dw [1,2,4,5,46,47,48,7,9,68,72,60,10,64] [(1,pt z),(Bz z),(Ci n2),(BG n2),(Dy c b27 o28),(Dh c),(48,Ac k),(DF n25),(ED c k cp40 ax39),(68,i6 y48.partition),(72,i6 y48.port),(60,i6 (CX c k)),(MB w36),(64,i6 ((CX c k)+2))] ?_
    refine CU [(14,o0)] [1,2,4,5,46,47,48,7,9,10,73] [] (D7 16 1) [(1,pt z),(Bz z),(Ci n2),(BG n2),(Dy c b27 o28),(Dh c),(48,Ac k),(DF n25),(ED c k cp40 ax39),(MB w36),(UV c k y48)] Ae ?_
    refine Bl 16 ?_
    refine BA (an 5 10) [1,2,4,5,46,47,48,7,9,10] [Qb w36.heap.size,Qb w36.heap.size,Qb w36.heap.size,Qb w36.heap.size,Qb w36.heap.size] [(1,pt z),(Bz z),(Ci n2),(BG n2),(Dy c b27 o28),(Dh c),(48,Ac k),(DF n25),(ED c k cp40 ax39),(MB w36)] ⟨w,w64.heap.size,(Tf n2 c aP i cP csG k y48 w36 aC cC z y34 n25 w)⟩ [] ⟨rfl,rfl,rfl,rfl,rfl,Ae⟩ (.inl rfl) ?_
    refine DU 17 [0,1,2,3,4,5,6,7,8,9,10] (Tf n2 c aP i cP csG k y48 w36 aC cC z y34 n25 w) rfl rfl ?_
    refine CO ?_
    refine BK [1,2,4,5,46,47,48,7,9,10] [(1,pt z),(Bz z),(Ci n2),(BG n2),(Dy c b27 o28),(Dh c),(48,Ac k),(DF n25),(ED c k cp40 ax39),(MB w36)] ?_
    refine BX [0,1,2,3,4,5,6,7,8,9,10] (Tf n2 c aP i cP csG k y48 w36 aC cC z y34 n25 w) rfl rfl ?_
    exact hK ⟨(w64.heap.size,w36.heap.size),by first | omega | (dsimp only;omega)⟩
   refine BA o0 [1,2,4,5,46,47,48,7,9,59,61,62,68,72,10] [] [(1,pt z),(Bz z),(Ci n2),(BG n2),(Dy c b27 o28),(Dh c),(48,Ac k),(DF n25),(ED c k cp40 ax39),(59,.func (.func 77) #[] #[pt n2]),(OQ n2),(62,.agg (AZ.arr y34)),(68,i6 y48.partition),(72,i6 y48.port),(MB w36)] ⟨w,w36.heap.size+1,[(Ak w),(C9 c z),(CG z),(Fh n2 c k),(EO n2 c aP i cP csG aC cC),(DK c aP i cP z),(D5 csG z),(DC csG aC cC z),(Ew y34 n25),(mid (n25+1) w36),(Ve w36)]⟩ [0,1,2,4,5,6,7,8,9] Ae (.inr rfl) ?_
   refine Bl 1 ?_
   refine IG [] [] 77 #[i6 2,pt n2] (some 60) (by as_aux_lemma=>kernel_rfl) rfl rfl Ae ?_
   intro w69 hw69
   refine Cb (args:=[i6 2,pt n2]) 10 ⟨w,w36.heap.size+1,[(Ak w),(C9 c z),(CG z),(Fh n2 c k),(EO n2 c aP i cP csG aC cC),(DK c aP i cP z),(D5 csG z),(DC csG aC cC z),(Ew y34 n25),(mid (n25+1) w36),(Ve w36)]⟩ Tryd.func77 rfl (by kernel_rfl) (by kernel_rfl) hw69 ?_
   refine q_c 17 0 [] [[o0],[(a1 3),o0],[(a1 3),o0,(ov (i6 ((CX c k)+2))),(a1 3)],[o0,o0]] [Qb n2,Qb n2,Wr ((CX c k:Int)+2) ((CX c k)+2),Qb n2] [(3,i6 (CX c k))] ⟨w,w36.heap.size+1,(Xv n2 c aP i cP csG k w36 aC cC z y34 n25 w)⟩ rfl ⟨rfl,rfl,BQ,rfl,Ae⟩ ?_
   refine Az [] [] (i6 (CX c k)) Ae ?_
   intro w70 hw70
   have hs71:=hw70
   refine⟨_,_,rfl,hs71,.inr (fun c hc=>hs71.all c (by first | exact hc | exact EM (is:=[0,1,2,4,5,6,7,8,9]) rfl c hc)), ?_⟩
   refine Dw [1,2,4,5,46,47,48,7,9,61,62,68,72,10,60] [(1,pt z),(Bz z),(Ci n2),(BG n2),(Dy c b27 o28),(Dh c),(48,Ac k),(DF n25),(ED c k cp40 ax39),(OQ n2),(62,.agg (AZ.arr y34)),(68,i6 y48.partition),(72,i6 y48.port),(MB w36),(60,i6 (CX c k))] ?_
   refine Bl 4 ?_
   refine IG [] [] 40 #[.agg (AZ.arr y34)] (some 63) (by as_aux_lemma=>kernel_rfl) rfl rfl Ae ?_
   intro w72 hw72
   refine(PZ w72 y34 (he33.ext (hw72.ext rfl) (fun _ h=>h))).mono ?_
   rintro e w73 ⟨rfl,hkw73⟩
   have hnw73:w36.heap.size+1≤w73.heap.size:=I5 hw72 hkw73
   have hs74:=hw72.keeps hkw73
   refine⟨_,_,rfl,hs74,.inr (fun c hc=>hs74.all c (by first | exact hc | exact EM (is:=[0,1,2,4,5,6,7,8,9]) rfl c hc)), ?_⟩
   refine Dw [1,2,4,5,46,47,48,7,9,61,68,72,10,60,63] [(1,pt z),(Bz z),(Ci n2),(BG n2),(Dy c b27 o28),(Dh c),(48,Ac k),(DF n25),(ED c k cp40 ax39),(OQ n2),(68,i6 y48.partition),(72,i6 y48.port),(MB w36),(60,i6 (CX c k)),(63,i6 (BL y34))] ?_
   refine Bl 5 ?_
   refine IG [] [] 77 #[i6 (BL y34),pt n2] (some 64) (by as_aux_lemma=>kernel_rfl) rfl rfl Ae ?_
   intro w75 hw75
   refine Cb (args:=[i6 (BL y34),pt n2]) 10 ⟨w,w73.heap.size,(Xv n2 c aP i cP csG k w36 aC cC z y34 n25 w)⟩ Tryd.func77 rfl (by kernel_rfl) (by kernel_rfl) hw75 ?_
   refine q_c 17 0 [] [[o0],[(a1 3),o0],[(a1 3),o0,(ov (i6 (((CX c k)+2)+(BL y34)))),(a1 3)],[o0,o0]] [Qb n2,Qb n2,Wr (((CX c k)+2:Int)+(BL y34)) (((CX c k)+2)+(BL y34)),Qb n2] [(3,i6 ((CX c k)+2))] ⟨w,w73.heap.size,[(Ak w),(C9 c z),(CG z),(Iz n2 c k y34),(EO n2 c aP i cP csG aC cC),(DK c aP i cP z),(D5 csG z),(DC csG aC cC z),(Ew y34 n25),(mid (n25+1) w36),(Ve w36)]⟩ rfl ⟨rfl,rfl,BQ,rfl,Ae⟩ ?_
   refine Az [] [] (i6 ((CX c k)+2)) Ae ?_
   intro w76 hw76
   have hs77:=hw76
   refine⟨_,_,rfl,hs77,.inr (fun c hc=>hs77.all c (by first | exact hc | exact EM (is:=[0,1,2,4,5,6,7,8,9]) rfl c hc)), ?_⟩
   refine Dw [1,2,4,5,46,47,48,7,9,68,72,10,60,64] [(1,pt z),(Bz z),(Ci n2),(BG n2),(Dy c b27 o28),(Dh c),(48,Ac k),(DF n25),(ED c k cp40 ax39),(68,i6 y48.partition),(72,i6 y48.port),(MB w36),(60,i6 (CX c k)),(64,i6 ((CX c k)+2))] ?_
   refine CU [(14,o0)] [1,2,4,5,46,47,48,7,9,10,73] [] (D7 16 1) [(1,pt z),(Bz z),(Ci n2),(BG n2),(Dy c b27 o28),(Dh c),(48,Ac k),(DF n25),(ED c k cp40 ax39),(MB w36),(UV c k y48)] Ae ?_
   refine Bl 16 ?_
   refine BA (an 5 10) [1,2,4,5,46,47,48,7,9,10] [Qb w36.heap.size,Qb w36.heap.size,Qb w36.heap.size,Qb w36.heap.size,Qb w36.heap.size] [(1,pt z),(Bz z),(Ci n2),(BG n2),(Dy c b27 o28),(Dh c),(48,Ac k),(DF n25),(ED c k cp40 ax39),(MB w36)] ⟨w,w73.heap.size,(Tf n2 c aP i cP csG k y48 w36 aC cC z y34 n25 w)⟩ [] ⟨rfl,rfl,rfl,rfl,rfl,Ae⟩ (.inl rfl) ?_
   refine DU 17 [0,1,2,3,4,5,6,7,8,9,10] (Tf n2 c aP i cP csG k y48 w36 aC cC z y34 n25 w) rfl rfl ?_
   refine CO ?_
   refine BK [1,2,4,5,46,47,48,7,9,10] [(1,pt z),(Bz z),(Ci n2),(BG n2),(Dy c b27 o28),(Dh c),(48,Ac k),(DF n25),(ED c k cp40 ax39),(MB w36)] ?_
   refine BX [0,1,2,3,4,5,6,7,8,9,10] (Tf n2 c aP i cP csG k y48 w36 aC cC z y34 n25 w) rfl rfl ?_
   exact hK ⟨(w73.heap.size,w36.heap.size),by first | omega | (dsimp only;omega)⟩
  rintro⟨⟨n49,b50⟩,hJ78⟩
  simp only at hJ78
  show E _ _ [(1,pt z),(Bz z),(Ci n2),(BG n2),(Dy c b27 o28),(Dh c),(48,Ac k),(DF n25),(ED c k cp40 ax39),(Gy b50)] _ ⟨w,n49,[(Ak w),(C9 c z),(CG z),(Iz n2 c k y34),(EO n2 c aP i cP csG aC cC),(DK c aP i cP z),(D5 csG z),(DC csG aC cC z),(Ew y34 n25),(mid (n25+1) w36),(bk b50 #[i6 (CX c k),i6 ((CX c k)+2),i6 y48.partition,i6 y48.port,.slice none 0 0] 91)]⟩ _ _ _
  refine LX 7 0 [] [[o0,o0,o0]] [] [(1,pt z),(Bz z),(Ci n2),(BG n2),(Dy c b27 o28),(Dh c),(48,Ac k),(DF n25),(Gy b50),(Jp c k cp40 ax39),(G8 c k),(76,i6 0)] rfl Ae ?_
  refine Pn z 99 3 BH.cells ?_
  refine DI [1,2,4,5,7,10,46,47,48,74,75,76] [(1,pt z),(Bz z),(Ci n2),(BG n2),(DF n25),(Gy b50),(Dy c b27 o28),(Dh c),(48,Ac k),(Jp c k cp40 ax39),(G8 c k),(76,i6 0)] ?_
  refine Du (fun m a w'=>∃ (n80:Nat) (j:Nat) (aD:Option Addr) (cD:Nat),m=(Cj c (k:Int) false).length - j∧n49≤n80∧(j≤(Cj c (k:Int) false).length)∧St 148 [(1,pt z),(Bz z),(Ci n2),(BG n2),(DF n25),(Gy b50),(Dy c b27 o28),(Dh c),(48,Ac k),(Jp c k cp40 ax39),(G8 c k),(76,Ac j)] [] ⟨w,n80,[(Ak w),(C9 c z),(CG z),(IK n2 c k j),(EO n2 c aP i cP csG aC cC),(DK c aP i cP z),(D5 csG z),(DC csG aC cC z),(Ew y34 n25),(mid (n25+1) w36),(Jn c k y48 aD cD j b50),(IJ c k aD cD j z)]⟩ a w') ((Cj c (k:Int) false).length - 0) ?_ ?_
  ·intro a w' hs;exact⟨n49,0,none,0,rfl,Nat.le_refl _,Nat.zero_le _,by(try dsimp only[Jn,EO,Ho,CG,Iz,IK,Fh,Ew,C9,DK,IJ,DC,D5,Dy,G8,IM,OQ,Ci,Jp,ED,FX,Dh,BG,Bz,Gy,DF,Jb,II]at hs ⊢);rw[show Iy c k 0=((CX c k)+2)+(BL y34)from by unfold Iy;rw[←hy34];omega];exact hs⟩
  rintro m a w' ⟨n80,j,aD,cD,rfl,hn79,hkj,hs⟩
  refine(?_:G Tryd.prog 148 [(1,pt z),(Bz z),(Ci n2),(BG n2),(DF n25),(Gy b50),(Dy c b27 o28),(Dh c),(48,Ac k),(Jp c k cp40 ax39),(G8 c k),(76,Ac j)] [] ⟨w,n80,[(Ak w),(C9 c z),(CG z),(IK n2 c k j),(EO n2 c aP i cP csG aC cC),(DK c aP i cP z),(D5 csG z),(DC csG aC cC z),(Ew y34 n25),(mid (n25+1) w36),(Jn c k y48 aD cD j b50),(IJ c k aD cD j z)]⟩ _ _ _) a w' hs
  clear hs a w'
  have hdb:=dAt_bd hfine (show k<c.Aj.xs.length by omega) (show j≤4 by unfold Kv at hEd;omega)
  have hdl:(Ff c k j).length=j:=UI
  refine CB ?_
  by_cases h81:(j:Int)<(((Cj c (k:Int) false).length:Nat):Int)
  ·refine Au 10 0 [1] [[oT]] [BT ((j:Int)<(((Cj c (k:Int) false).length:Nat):Int))] [(1,pt z),(Bz z),(Ci n2),(BG n2),(DF n25),(Gy b50),(Dy c b27 o28),(Dh c),(48,Ac k),(Jp c k cp40 ax39),(G8 c k),(76,Ac j),(77,.bool true)] rfl ⟨bt,Ae⟩ ?_
   obtain⟨b82,o83,ha84,hF86,hc85⟩:=((⟨hDw36,VJ hfine⟩:La Gp.cells 2 Gp.ok _ _ _)).1.all (show 0<(Cj c (k:Int) false).length by omega)
   replace ha84:ax39=some ⟨b82,o83,none⟩:=ha84
   refine LH [(1,pt z),(Bz z),(Ci n2),(BG n2),(DF n25),(Gy b50),(Dy c b27 o28),(Dh c),(48,Ac k),(KJ c k b82 o83 cp40),(G8 c k),(76,Ac j),(77,.bool true)] (by(try dsimp only[Jn,EO,Ho,CG,Iz,IK,Fh,Ew,C9,DK,IJ,DC,D5,KJ,Dy,G8,IM,Ci,Jp,ED,FX,Dh,BG,Bz,Gy,DF,Jb,II]);simp only[ha84]) ?_
   have hc87:=hc85 j (show j<(Cj c (k:Int) false).length by omega)
   have he88:=((⟨hDw36,VJ hfine⟩:La Gp.cells 2 Gp.ok _ _ _)).2 j (show j<(Cj c (k:Int) false).length by omega)
   obtain⟨y89,hy89⟩:∃ y_,y_=gd (⟨ax39,cp40,Cj c (k:Int) false⟩:Sl Gp).xs j:=⟨_,rfl⟩
   rw[←hy89]at he88 hc87
   refine q_c 3 0 [] [[(oi j),(oa [.via 9 (i6 y89.partition),.via 9 (i6 y89.port)]),o0,(an 2 12)]] [CW j,j<(Cj c (k:Int) false).length,Ce,∀ w',Ch.holds (mid (n25+1) w36) w'→w'.cell? ⟨b82,o83+j*2,none⟩=some (i6 y89.partition),∀ w',Ch.holds (mid (n25+1) w36) w'→w'.cell? ⟨b82,o83+j*2+1,none⟩=some (i6 y89.port),Qb n80,Qb n80] [(1,pt z),(Bz z),(Ci n2),(BG n2),(DF n25),(Gy b50),(Dy c b27 o28),(Dh c),(48,Ac k),(KJ c k b82 o83 cp40),(G8 c k),(76,Ac j),(12,pt n80)] ⟨w,n80+1,[(Ak w),(C9 c z),(CG z),(IK n2 c k j),(EO n2 c aP i cP csG aC cC),(DK c aP i cP z),(D5 csG z),(DC csG aC cC z),(Ew y34 n25),(mid (n25+1) w36),(Jn c k y48 aD cD j b50),(IJ c k aD cD j z),(NW y89 n80)]⟩ rfl ⟨rfl,(by omega),rfl,MF hF86 (hc87 0 _ rfl),MF hF86 (hc87 1 _ rfl),rfl,rfl,Ae⟩ ?_
   refine DX 14 [0,1,2,4,5,6,7,8,9,10,12] [(Ak w),(C9 c z),(CG z),(EO n2 c aP i cP csG aC cC),(DK c aP i cP z),(D5 csG z),(DC csG aC cC z),(Ew y34 n25),(mid (n25+1) w36),(Jn c k y48 aD cD j b50),(NW y89 n80)] rfl rfl ?_
   refine CU [(0,o0),(1,(a1 9)),(2,o0),(3,(a1 10)),(4,o0),(5,(a1 10)),(6,o0),(7,(an 3 7))] [1,2,4,5,7,10,46,47,48,74,75,76,81,83,85,86,87] [Qb b50,Qb n80,Qb n80,Qb n25,Qb n25,Qb n25] (D7 8 7) [(1,pt z),(Bz z),(Ci n2),(BG n2),(DF n25),(Gy b50),(Dy c b27 o28),(Dh c),(48,Ac k),(KJ c k b82 o83 cp40),(G8 c k),(76,Ac j),(81,.slice aD ((Ff c k j).length) cD),(83,i6 y89.partition),(85,i6 y89.port),(86,.func (.func 77) #[] #[pt n2]),(87,.agg (AZ.arr y34))] ⟨rfl,rfl,rfl,rfl,rfl,rfl,Ae⟩ ?_
   refine Bl 8 ?_
   refine IG [] [] 41 #[.agg (AZ.arr y34)] (some 88) (by as_aux_lemma=>kernel_rfl) rfl rfl Ae ?_
   intro w90 hw90
   refine(port_calls w90 y34 (he33.ext (hw90.ext rfl) (fun _ h=>h))).mono ?_
   rintro e w91 ⟨rfl,hkw91⟩
   have hnw91:n80+1≤w91.heap.size:=I5 hw90 hkw91
   have hs92:=hw90.keeps hkw91
   refine⟨_,_,rfl,hs92,.inr (fun c hc=>hs92.all c (by first | exact hc | exact EM (is:=[0,1,2,4,5,6,7,8,9,10,12]) rfl c hc)), ?_⟩
   refine Dw [1,2,4,5,7,10,46,47,48,74,75,76,81,83,85,86,88] [(1,pt z),(Bz z),(Ci n2),(BG n2),(DF n25),(Gy b50),(Dy c b27 o28),(Dh c),(48,Ac k),(KJ c k b82 o83 cp40),(G8 c k),(76,Ac j),(81,.slice aD ((Ff c k j).length) cD),(83,i6 y89.partition),(85,i6 y89.port),(86,.func (.func 77) #[] #[pt n2]),(88,i6 (portOf y34))] ?_
   refine Bl 9 ?_
   refine IG [] [] 77 #[i6 (portOf y34),pt n2] (some 89) (by as_aux_lemma=>kernel_rfl) rfl rfl Ae ?_
   intro w93 hw93
   refine Cb (args:=[i6 (portOf y34),pt n2]) 10 ⟨w,w91.heap.size,[(Ak w),(C9 c z),(CG z),(IK n2 c k j),(EO n2 c aP i cP csG aC cC),(DK c aP i cP z),(D5 csG z),(DC csG aC cC z),(Ew y34 n25),(mid (n25+1) w36),(Jn c k y48 aD cD j b50),(IJ c k aD cD j z),(NW y89 n80)]⟩ Tryd.func77 rfl (by kernel_rfl) (by kernel_rfl) hw93 ?_
   refine q_c 17 0 [] [[o0],[(a1 3),o0],[(a1 3),o0,(ov (i6 ((Iy c k j)+(portOf y34)))),(a1 3)],[o0,o0]] [Qb n2,Qb n2,Wr ((Iy c k j:Int)+(portOf y34)) ((Iy c k j)+(portOf y34)),Qb n2] [(3,i6 (Iy c k j))] ⟨w,w91.heap.size,[(Ak w),(C9 c z),(CG z),(PG n2 c k j y34),(EO n2 c aP i cP csG aC cC),(DK c aP i cP z),(D5 csG z),(DC csG aC cC z),(Ew y34 n25),(mid (n25+1) w36),(Jn c k y48 aD cD j b50),(IJ c k aD cD j z),(NW y89 n80)]⟩ rfl ⟨rfl,rfl,BQ,rfl,Ae⟩ ?_
   refine Az [] [] (i6 (Iy c k j)) Ae ?_
   intro w94 hw94
   have hs95:=hw94
   refine⟨_,_,rfl,hs95,.inr (fun c hc=>hs95.all c (by first | exact hc | exact EM (is:=[0,1,2,4,5,6,7,8,9,10,12]) rfl c hc)), ?_⟩
   refine Dw [1,2,4,5,7,10,46,47,48,74,75,76,81,83,85,89] [(1,pt z),(Bz z),(Ci n2),(BG n2),(DF n25),(Gy b50),(Dy c b27 o28),(Dh c),(48,Ac k),(KJ c k b82 o83 cp40),(G8 c k),(76,Ac j),(81,.slice aD ((Ff c k j).length) cD),(83,i6 y89.partition),(85,i6 y89.port),(89,i6 (Iy c k j))] ?_
   refine CU [(10,o0)] [1,2,4,5,7,10,46,47,48,74,75,76,81,90] [] (D7 11 4) [(1,pt z),(Bz z),(Ci n2),(BG n2),(DF n25),(Gy b50),(Dy c b27 o28),(Dh c),(48,Ac k),(KJ c k b82 o83 cp40),(G8 c k),(76,Ac j),(81,.slice aD ((Ff c k j).length) cD),(90,.agg #[i6 y89.partition,i6 y89.port,i6 (Iy c k j)])] Ae ?_
   refine Bl 11 ?_
   refine BA o0 [1,2,4,5,7,10,46,47,48,74,75,76,81,91] [] [(1,pt z),(Bz z),(Ci n2),(BG n2),(DF n25),(Gy b50),(Dy c b27 o28),(Dh c),(48,Ac k),(KJ c k b82 o83 cp40),(G8 c k),(76,Ac j),(81,.slice aD ((Ff c k j).length) cD),(91,.slice (some ⟨w91.heap.size,0,none⟩) 1 1)] ⟨w,w91.heap.size+1,[(Ak w),(C9 c z),(CG z),(PG n2 c k j y34),(EO n2 c aP i cP csG aC cC),(DK c aP i cP z),(D5 csG z),(DC csG aC cC z),(Ew y34 n25),(mid (n25+1) w36),(Jn c k y48 aD cD j b50),(IJ c k aD cD j z),(NW y89 n80),(RF c k j y89 w91)]⟩ [0,1,2,4,5,6,7,8,9,10,12] Ae (.inr rfl) ?_
   refine Bl 12 ?_
   refine PO z 11 13 (Ff c k j) [(⟨y89.partition,y89.port,Iy c k j⟩:BH)] BH.cells 99 3 24 (.slice aD ((Ff c k j).length) cD) w91.heap.size 1 1 #[i6 y89.partition,i6 y89.port,i6 (Iy c k j)] 99 (0,0) true (some 92) [0,1,2,4,5,6,7,8,9,10,12] (by simp only[List.length_cons,List.length_nil];omega) (show z≤w91.heap.size+1 by omega) (.inr ⟨rfl,rfl⟩) (fun ax96 cp97 n98 (hn99:w91.heap.size+1≤n98) => ?_)
   refine Dw [1,2,4,5,7,10,46,47,48,74,75,76,92] [(1,pt z),(Bz z),(Ci n2),(BG n2),(DF n25),(Gy b50),(Dy c b27 o28),(Dh c),(48,Ac k),(KJ c k b82 o83 cp40),(G8 c k),(76,Ac j),(92,.slice ax96 ((Ff c k j++[(⟨y89.partition,y89.port,Iy c k j⟩:BH)]).length) cp97)] ?_
   refine CU [(13,o0)] [1,2,4,5,7,10,46,47,48,74,75,76,92,93] [] (D7 14 1) [(1,pt z),(Bz z),(Ci n2),(BG n2),(DF n25),(Gy b50),(Dy c b27 o28),(Dh c),(48,Ac k),(KJ c k b82 o83 cp40),(G8 c k),(76,Ac j),(92,.slice ax96 ((Ff c k j++[(⟨y89.partition,y89.port,Iy c k j⟩:BH)]).length) cp97),(93,.pointer (some ⟨b50,4,none⟩))] Ae ?_
   refine Bl 14 ?_
   refine BA (a1 10) [1,2,4,5,7,10,46,47,48,74,75,76] [Qb b50] [(1,pt z),(Bz z),(Ci n2),(BG n2),(DF n25),(Gy b50),(Dy c b27 o28),(Dh c),(48,Ac k),(KJ c k b82 o83 cp40),(G8 c k),(76,Ac j)] ⟨w,n98,[(Ak w),(C9 c z),(CG z),(PG n2 c k j y34),(EO n2 c aP i cP csG aC cC),(DK c aP i cP z),(D5 csG z),(DC csG aC cC z),(Ew y34 n25),(mid (n25+1) w36),(U0 c k y48 j b50 ax96 y89 cp97),(RX c k j ax96 y89 cp97 z),(NW y89 n80),(RF c k j y89 w91)]⟩ [] ⟨rfl,Ae⟩ (.inl rfl) ?_
   refine DU 15 [0,1,2,3,4,5,6,7,8,9,10,11,12,13] [(Ak w),(C9 c z),(CG z),(PG n2 c k j y34),(EO n2 c aP i cP csG aC cC),(DK c aP i cP z),(D5 csG z),(DC csG aC cC z),(Ew y34 n25),(mid (n25+1) w36),(U0 c k y48 j b50 ax96 y89 cp97),(RX c k j ax96 y89 cp97 z),(NW y89 n80),(RF c k j y89 w91)] rfl rfl ?_
   refine CO ?_
   refine LX 4 0 [] [[(ov (i6 ((j+1:Nat):Int))),o0]] [Wr ((j:Int)+1) (((j+1:Nat):Int))] [(1,pt z),(Bz z),(Ci n2),(BG n2),(DF n25),(Gy b50),(Dy c b27 o28),(Dh c),(48,Ac k),(KJ c k b82 o83 cp40),(G8 c k),(76,i6 ((j+1:Nat):Int))] rfl ⟨BQ,Ae⟩ ?_
   refine BX [0,1,2,3,4,5,6,7,8,9,10,11] [(Ak w),(C9 c z),(CG z),(PG n2 c k j y34),(EO n2 c aP i cP csG aC cC),(DK c aP i cP z),(D5 csG z),(DC csG aC cC z),(Ew y34 n25),(mid (n25+1) w36),(U0 c k y48 j b50 ax96 y89 cp97),(RX c k j ax96 y89 cp97 z)] rfl rfl ?_
   refine GR [1,2,4,5,7,10,46,47,48,74,75,76] [(1,pt z),(Bz z),(Ci n2),(BG n2),(DF n25),(Gy b50),(Dy c b27 o28),(Dh c),(48,Ac k),(Jp c k cp40 ax39),(G8 c k),(76,i6 ((j+1:Nat):Int))] (by(try dsimp only[U0,Jn,EO,Ho,RF,CG,Iz,PG,IK,Fh,Ew,NW,C9,RX,DK,IJ,DC,D5,KJ,Dy,G8,IM,Ci,Jp,ED,FX,Dh,BG,Bz,Gy,DF,Jb,II]);simp only[ha84];rfl) ?_
   refine BO (fun a w' hs=>⟨(Cj c (k:Int) false).length - (j+1),by omega,n98,(j+1),ax96,cp97,rfl,by omega,by omega,by(try dsimp only[U0,Jn,EO,Ho,RF,CG,Iz,PG,IK,Fh,Ew,NW,C9,RX,DK,IJ,DC,D5,KJ,Dy,G8,IM,Ci,Jp,ED,FX,Dh,BG,Bz,Gy,DF,Jb,II]at hs ⊢);rw[dAt_succ,WT,←hy34,show PV c k j=⟨y89.partition,y89.port,Iy c k j⟩from by rw[hy89];rfl];exact hs⟩)
  refine q_c 11 4 [0] [[oF],[o0,(a1 4),(an 5 10),o0]] [BF ((j:Int)<(((Cj c (k:Int) false).length:Nat):Int)),Qb (n2+1),Qb b50,Qb b50,Qb b50,Qb b50,Qb b50] [(1,pt z),(Bz z),(Ci n2),(BG n2),(Dy c b27 o28),(Dh c),(48,Ac k),(96,.slice aC csG.length cC),(98,.slice (some ⟨n80,0,none⟩) 1 1)] ⟨w,n80+1,[(Ak w),(C9 c z),(CG z),(IK n2 c k j),(EO n2 c aP i cP csG aC cC),(DK c aP i cP z),(D5 csG z),(DC csG aC cC z),(Ew y34 n25),(mid (n25+1) w36),(Jn c k y48 aD cD j b50),(IJ c k aD cD j z),(WS c k y48 aD cD j n80)]⟩ rfl ⟨bf,rfl,rfl,rfl,rfl,rfl,rfl,Ae⟩ ?_
  refine NY z 7 12 csG [(⟨CX c k,(CX c k)+2,y48.partition,y48.port,(⟨aD,cD,Ff c k j⟩:Sl BH)⟩:A8)] A8.cells 91 5 56 (.slice aC csG.length cC) n80 1 1 #[i6 (CX c k),i6 ((CX c k)+2),i6 y48.partition,i6 y48.port,.slice aD ((Ff c k j).length) cD] 91 (0,0) true (some 99) (by simp only[List.length_cons,List.length_nil];omega) (show z≤n80+1 by omega) (fun ax100 cp101 n102 (hn103:n80+1≤n102) => ?_)
  refine F8 5 0 [] [[o0,(a1 4)],[(ov (i6 ((k+1:Nat):Int))),o0]] [Qb (n2+1),Wr ((k:Int)+1) (((k+1:Nat):Int))] [(1,pt z),(Bz z),(Ci n2),(BG n2),(Dy c b27 o28),(Dh c),(48,i6 ((k+1:Nat):Int))] ⟨w,n102,[(Ak w),(C9 c z),(CG z),(IK n2 c k j),(WF n2 c aP i cP ax100 csG k y48 aD cD j cp101),(DK c aP i cP z),(D5 csG z),(VE c ax100 csG k y48 aD cD j cp101 z),(Ew y34 n25),(mid (n25+1) w36),(Jn c k y48 aD cD j b50),(IJ c k aD cD j z),(WS c k y48 aD cD j n80)]⟩ rfl ⟨rfl,BQ,Ae⟩ ?_
  refine e_fam 6 11 [0,1,2,3,4,5,7,8,9,10,12] [(Ak w),(C9 c z),(CG z),(IK n2 c k j),(WF n2 c aP i cP ax100 csG k y48 aD cD j cp101),(DK c aP i cP z),(VE c ax100 csG k y48 aD cD j cp101 z),(Ew y34 n25),(mid (n25+1) w36),(Jn c k y48 aD cD j b50),(WS c k y48 aD cD j n80)] ?_
  refine BX [0,1,2,3,4,5,11,6] [(Ak w),(C9 c z),(CG z),(IK n2 c k j),(WF n2 c aP i cP ax100 csG k y48 aD cD j cp101),(DK c aP i cP z),(IP z 99 3 BH.cells (csG.map A8.DJ++[⟨aD,cD,Ff c k j⟩])),(VE c ax100 csG k y48 aD cD j cp101 z)] rfl rfl ?_
  refine GR [1,2,4,5,46,47,48] [(1,pt z),(Bz z),(Ci n2),(BG n2),(IM c),(Dh c),(48,i6 ((k+1:Nat):Int))] (by(try dsimp only[WF,U0,Jn,WS,EO,Ho,RF,CG,Iz,PG,IK,Fh,Ew,NW,C9,VE,RX,DK,IJ,DC,D5,KJ,Dy,G8,IM,Ci,Jp,ED,FX,Dh,BG,Bz,Gy,DF,Jb,II]);simp only[ha29];rfl) ?_
  refine BO (fun a w' hs=>⟨c.Aj.xs.length - (k+1),by omega,n102,(k+1),(csG++[(⟨CX c k,(CX c k)+2,y48.partition,y48.port,(⟨aD,cD,Ff c k j⟩:Sl BH)⟩:A8)]),ax100,cp101,rfl,by omega,by omega,by rw[List.length_append,hcl];rfl,chans_push hcl hcs (a:=aD) (cp:=cD) (by unfold JF;rw[←hy48,show Kv c k=j from by unfold Kv;omega]),by(try dsimp only[WF,U0,Jn,WS,EO,Ho,RF,CG,Iz,PG,IK,Fh,Ew,NW,C9,VE,RX,DK,IJ,DC,D5,KJ,Dy,G8,IM,Ci,Jp,ED,FX,Dh,BG,Bz,Gy,DF,Jb,II]at hs ⊢);rw[List.map_append,cAt_succ,show Kv c k=j from by unfold Kv;omega];exact hs⟩)
 refine Au 12 1 [0] [[oF],[o0]] [BF ((k:Int)<(c.Aj.xs.length:Int))] [(1,pt z),(Bz z),(BG n2),(102,.func (.func 77) #[] #[pt n2])] rfl ⟨bf,Ae⟩ ?_
 refine l_call [] [] 77 #[i6 0,pt n2] (some 103) Ae ?_
 intro w104 hw104
 refine Cb (args:=[i6 0,pt n2]) 10 ⟨w,n25,(Jb n2 c aP i cP csG k aC cC z w)⟩ Tryd.func77 rfl (by kernel_rfl) (by kernel_rfl) hw104 ?_
 refine Au 17 0 [] [[o0],[(a1 3),o0],[(a1 3),o0,(ov (i6 (CX c k))),(a1 3)],[o0,o0]] [Qb n2,Qb n2,Wr ((CX c k:Int)+0) (CX c k),Qb n2] [(3,i6 (CX c k))] rfl ⟨rfl,rfl,BQ,rfl,Ae⟩ ?_
 refine Az [] [] (i6 (CX c k)) Ae ?_
 intro w105 hw105
 refine⟨_,_,rfl,hw105, ?_⟩
 refine Bq 0 3 [] [[(ov (i6 ((CX c k)+16))),(ov (i6 (((CX c k)+16) - 1))),(ov (i6 ((((CX c k)+16) - 1) / 16)))]] [Wr ((CX c k:Int)+16) ((CX c k)+16),Wr (((CX c k)+16:Int) - 1) (((CX c k)+16) - 1),Wr (Int.tdiv (((CX c k)+16) - 1) 16) ((((CX c k)+16) - 1) / 16)] [(1,pt z),(Bz z),(BG n2),(106,i6 ((((CX c k)+16) - 1) / 16))] rfl ⟨BQ,BQ,congrArg (Value.int .i64) (Ob (by omega) (by omega) (by omega)),Ae⟩ ?_
 refine l_call [] [] 38 #[i6 ((((CX c k)+16) - 1) / 16)] (some 107) Ae ?_
 intro w106 hw106
 refine Cb (args:=[i6 ((((CX c k)+16) - 1) / 16)]) 4 ⟨w,n25,(Jb n2 c aP i cP csG k aC cC z w)⟩ Tryd.func38 rfl (by kernel_rfl) (by kernel_rfl) hw106 ?_
 refine q_c 9 0 [] [[o0,o0],[o0,o0]] [] [(2,.func (.func 77) #[] #[pt n25])] ⟨w,n25+1,[(Ak w),(C9 c z),(CG z),(Fh n2 c k),(EO n2 c aP i cP csG aC cC),(DK c aP i cP z),(D5 csG z),(DC csG aC cC z),(bk n25 #[i6 ((((CX c k)+16) - 1) / 16)] 3)]⟩ rfl Ae ?_
 refine Az [] [] (.func (.func 77) #[] #[pt n25]) Ae ?_
 intro w107 hw107
 refine⟨_,_,rfl,hw107, ?_⟩
 refine Bq 8 0 [] [[o0],[o0,(a1 1),o0,o0]] [Qb z] [(Bz z),(BG n2),(FV n25),(MW c),(FU c),(111,i6 0)] rfl ⟨rfl,Ae⟩ ?_
 refine g_fam0 z 3 1 (fun x:Int=>[i6 x]) ?_
 refine Du (fun m a w'=>∃ (n109:Nat) (p:Nat) (psG:List Aq) (aP2:Option Addr) (cP2:Nat),m=c.Aa.xs.length - p∧n25+1≤n109∧(p≤c.Aa.xs.length)∧(psG.length=c.Aa.xs.length)∧(∀ q,p≤q→q<c.Aa.xs.length→gd psG q=PM c q)∧(∀ q,q<p→∃ a cp,gd psG q=GN c q ⟨a,cp,FP c q (Jr (gd c.Aa.xs q))⟩)∧St 148 [(Bz z),(BG n2),(FV n25),(MW c),(FU c),(111,Ac p)] [] ⟨w,n109,(OB n2 c csG k psG cP2 aC cC aP2 z n25 p w)⟩ a w') (c.Aa.xs.length - 0) ?_ ?_
 ·intro a w' hs;exact⟨(n25+1),0,(I8 c i),aP,cP,rfl,Nat.le_refl _,Nat.zero_le _,(by rw[WH];omega),(fun q _ hq=>YQ (show q<i by omega)),fun q hq=>absurd hq (Nat.not_lt_zero q),by(try dsimp only[Jn,EO,Ho,PD,CG,Iz,IK,NS,Fh,Ew,C9,Jg,DK,IJ,OH,DC,D5,Dy,MW,G8,IM,FV,Ci,Jp,ED,FU,FX,Dh,BG,Bz,Gy,DF,OB,Jb,II]at hs ⊢);rw[show Ec c 0=(((CX c k)+16) - 1) / 16 from by rw[tAt_zero,show k=c.Aj.xs.length by omega]];exact hs⟩
 rintro m a w' ⟨n109,p,psG,aP2,cP2,rfl,hn108,hkp,hpl,hp1,hp2,hs⟩
 refine(?_:G Tryd.prog 148 [(Bz z),(BG n2),(FV n25),(MW c),(FU c),(111,Ac p)] [] ⟨w,n109,(OB n2 c csG k psG cP2 aC cC aP2 z n25 p w)⟩ _ _ _) a w' hs
 clear hs a w'
 have htb:=QO hfine p (by omega)
 refine CB ?_
 by_cases h110:(p:Int)<(c.Aa.xs.length:Int)
 ·refine Au 10 0 [1] [[oT]] [BT ((p:Int)<(c.Aa.xs.length:Int))] [(Bz z),(BG n2),(FV n25),(MW c),(FU c),(111,Ac p),(112,.bool true)] rfl ⟨bt,Ae⟩ ?_
  obtain⟨b111,o112,ha113,hF115,hc114⟩:=(hc.Aa).1.all (show 0<c.Aa.xs.length by omega)
  replace ha113:c.Aa.a=some ⟨b111,o112,none⟩:=ha113
  refine LH [(Bz z),(BG n2),(FV n25),(Hg c b111 o112),(FU c),(111,Ac p),(112,.bool true)] (by(try dsimp only[Jn,EO,Ho,PD,CG,Iz,IK,NS,Fh,Ew,C9,Jg,DK,IJ,OH,DC,D5,Hg,Dy,MW,G8,IM,FV,Ci,Jp,ED,FU,FX,Dh,BG,Bz,Gy,DF,OB,Jb,II]);simp only[ha113]) ?_
  have hc116:=hc114 p (show p<c.Aa.xs.length by omega)
  have he117:=(hc.Aa).2 p (show p<c.Aa.xs.length by omega)
  obtain⟨y118,hy118⟩:∃ y_,y_=gd c.Aa.xs p:=⟨_,rfl⟩
  rw[←hy118]at he117 hc116
  have htn:=U3 y118
  refine q_c 4 0 [] [[o0,(oi p),(ol 0 (Ar.arr y118)),o0,o0,(an 8 10)]] [CW p,p<c.Aa.xs.length,Ce,GU w b111 (o112+p*8) (Ar.arr y118),Qb n109,Qb n109,Qb n109,Qb n109,Qb n109,Qb n109,Qb n109,Qb n109] [(Bz z),(BG n2),(FV n25),(Hg c b111 o112),(FU c),(111,Ac p),(15,pt n109),(14,Ac p)] ⟨w,n109+1,[(Ak w),(C9 c z),(CG z),(Fh n2 c k),(PD n2 c csG psG cP2 aC cC aP2),(OH psG cP2 aP2 z),(D5 csG z),(DC csG aC cC z),(NS c n25 p),(Jg psG z p),(JR n109 y118)]⟩ rfl ⟨rfl,(by omega),rfl,Ei hc116,rfl,rfl,rfl,rfl,rfl,rfl,rfl,rfl,Ae⟩ ?_
  refine Lc (base:=z) (e:=70) (sz:=5) (cells:=Aq.cells) (a:=aP2) (n:=psG.length) (cap:=cP2) (xs:=psG) 5 (by omega) (fun b119 hg120 hb121 => ?_)
  subst hg120
  refine DX 7 [0,1,2,3,4,5,6,7,9,10] [(Ak w),(C9 c z),(CG z),(Fh n2 c k),(Ll n2 c csG b119 psG cP2 aC cC),(Cm z 70 5 Aq.cells (.slice (some ⟨b119,0,none⟩) psG.length cP2) psG),(D5 csG z),(DC csG aC cC z),(Jg psG z p),(JR n109 y118)] rfl rfl ?_
  refine CU [(0,o0),(1,(a1 4)),(2,o0),(3,o0)] [2,5,13,109,110,111,15,14,117,118,119] [Qb (n2+1)] (D7 4 4) [(Bz z),(BG n2),(FV n25),(Hg c b111 o112),(FU c),(111,Ac p),(15,pt n109),(14,Ac p),(117,.slice (some ⟨b119,0,none⟩) psG.length cP2),(118,Ac p),(119,.func (.func 77) #[] #[pt n25])] ⟨rfl,Ae⟩ ?_
  refine Bl 4 ?_
  refine IG [] [] 77 #[i6 1,pt n25] (some 120) (by as_aux_lemma=>kernel_rfl) rfl rfl Ae ?_
  intro w122 hw122
  refine Cb (args:=[i6 1,pt n25]) 10 ⟨w,n109+1,[(Ak w),(C9 c z),(CG z),(Fh n2 c k),(Ll n2 c csG b119 psG cP2 aC cC),(Cm z 70 5 Aq.cells (.slice (some ⟨b119,0,none⟩) psG.length cP2) psG),(D5 csG z),(DC csG aC cC z),(NS c n25 p),(Jg psG z p),(JR n109 y118)]⟩ Tryd.func77 rfl (by kernel_rfl) (by kernel_rfl) hw122 ?_
  refine q_c 17 0 [] [[o0],[(a1 8),o0],[(a1 8),o0,(ov (i6 ((Ec c p)+1))),(a1 8)],[o0,o0]] [Qb n25,Qb n25,Wr ((Ec c p:Int)+1) ((Ec c p)+1),Qb n25] [(3,i6 (Ec c p))] ⟨w,n109+1,[(Ak w),(C9 c z),(CG z),(Fh n2 c k),(Ll n2 c csG b119 psG cP2 aC cC),(Cm z 70 5 Aq.cells (.slice (some ⟨b119,0,none⟩) psG.length cP2) psG),(D5 csG z),(DC csG aC cC z),(bk n25 #[i6 ((Ec c p)+1)] 3),(Jg psG z p),(JR n109 y118)]⟩ rfl ⟨rfl,rfl,BQ,rfl,Ae⟩ ?_
  refine Az [] [] (i6 (Ec c p)) Ae ?_
  intro w123 hw123
  have hs124:=hw123
  refine⟨_,_,rfl,hs124,.inr (fun c hc=>hs124.all c (by first | exact hc | exact EM (is:=[0,1,2,3,4,5,6,7,9,10]) rfl c hc)), ?_⟩
  refine Dw [2,5,13,109,110,111,15,14,117,118,120] [(Bz z),(BG n2),(FV n25),(Hg c b111 o112),(FU c),(111,Ac p),(15,pt n109),(14,Ac p),(117,.slice (some ⟨b119,0,none⟩) psG.length cP2),(118,Ac p),(120,i6 (Ec c p))] ?_
  refine CU [(5,(oi p)),(6,o0)] [2,5,13,109,110,111,15,14,120,122] [CW p,p<psG.length,Ce] (D7 7 1) [(Bz z),(BG n2),(FV n25),(Hg c b111 o112),(FU c),(111,Ac p),(15,pt n109),(14,Ac p),(120,i6 (Ec c p)),(122,.pointer (some ⟨b119,0+GZ 5 p+3,none⟩))] ⟨rfl,(by omega),rfl,Ae⟩ ?_
  refine Bl 7 ?_
  refine UA 5 p 3 psG (⟨CV c p,CV c p+2,CV c p+2+17,Ec c p,(⟨none,0,[]⟩:Sl Int)⟩:Aq) Aq.cells z 70 5 b119 psG.length cP2 (i6 (Ec c p)) none [] (by first | omega | (rw[List.length_set];omega)) (by first | (rw[hp1 p (Nat.le_refl _) (by omega)];rfl) | (rw[NM (by omega)];rfl)) (.inl rfl) ?_
  refine Dw [2,5,13,109,110,111,15,14] [(Bz z),(BG n2),(FV n25),(Hg c b111 o112),(FU c),(111,Ac p),(15,pt n109),(14,Ac p)] ?_
  refine DU 8 [0,1,2,3,4,5,6,7,8,9,10] [(Ak w),(C9 c z),(CG z),(Fh n2 c k),(Ll n2 c csG b119 psG cP2 aC cC),(Cm z 70 5 Aq.cells (.slice (some ⟨b119,0,none⟩) psG.length cP2) (psG.set p (⟨CV c p,CV c p+2,CV c p+2+17,Ec c p,(⟨none,0,[]⟩:Sl Int)⟩:Aq))),(D5 csG z),(DC csG aC cC z),(bk n25 #[i6 ((Ec c p)+1)] 3),(Jg psG z p),(JR n109 y118)] rfl rfl ?_
  refine CO ?_
  refine LX 3 1 [] [[(an 8 10)]] [Qb n109,Qb n109,Qb n109,Qb n109,Qb n109,Qb n109,Qb n109,Qb n109] [(Bz z),(BG n2),(FV n25),(Hg c b111 o112),(FU c),(111,Ac p),(14,Ac p),(123,.agg (Ar.arr y118))] rfl ⟨rfl,rfl,rfl,rfl,rfl,rfl,rfl,rfl,Ae⟩ ?_
  refine AY 42 #[.agg (Ar.arr y118)] (some 124) (i6 ((Jr y118:Nat):Int)) (fun w125 hw125=>tables_calls w125 y118 (he117.ext (hw125.ext rfl) (fun _ h=>h)) (Zj (by rw[hy118];exact hfine.parts p (by omega)))) (fun n126 (hn127:n109+1≤n126) => ?_)
  refine Bq 3 0 [] [[o0]] [] [(Bz z),(BG n2),(FV n25),(Hg c b111 o112),(FU c),(111,Ac p),(14,Ac p),(J8 y118),(125,i6 0)] rfl Ae ?_
  refine Pn z 3 1 (fun x:Int=>[i6 x]) ?_
  refine DI [2,5,13,14,109,110,111,124,125] [(Bz z),(BG n2),(FV n25),(14,Ac p),(Hg c b111 o112),(FU c),(111,Ac p),(J8 y118),(125,i6 0)] ?_
  refine Du (fun m a w'=>∃ (n129:Nat) (t:Nat) (aT:Option Addr) (cT:Nat),m=(Jr y118) - t∧n126≤n129∧(t≤(Jr y118))∧St 148 [(Bz z),(BG n2),(FV n25),(14,Ac p),(Hg c b111 o112),(FU c),(111,Ac p),(J8 y118),(125,Ac t)] [] ⟨w,n129,(Qs n2 c csG k b119 psG cP2 aC cC z n25 p t n109 y118 aT cT w)⟩ a w') ((Jr y118) - 0) ?_ ?_
  ·intro a w' hs;exact⟨n126,0,none,0,rfl,Nat.le_refl _,Nat.zero_le _,by(try dsimp only[Jn,Ll,EO,Ho,PD,CG,Iz,Qr,IK,JR,NS,Fh,Ew,C9,Na,Qi,Jg,DK,IJ,OH,DC,D5,Hg,Dy,MW,G8,IM,FV,Ci,Jp,ED,FU,FX,Dh,J8,BG,Bz,Gy,DF,Qs,OB,Jb,II]at hs ⊢);rw[show Ec c p+1+((0:Nat):Int)=Ec c p+1 from by omega];exact hs⟩
  rintro m a w' ⟨n129,t,aT,cT,rfl,hn128,hkt,hs⟩
  refine(?_:G Tryd.prog 148 [(Bz z),(BG n2),(FV n25),(14,Ac p),(Hg c b111 o112),(FU c),(111,Ac p),(J8 y118),(125,Ac t)] [] ⟨w,n129,(Qs n2 c csG k b119 psG cP2 aC cC z n25 p t n109 y118 aT cT w)⟩ _ _ _) a w' hs
  clear hs a w'
  have htl:(FP c p t).length=t:=VN
  refine CB ?_
  by_cases h130:(t:Int)<((Jr y118:Nat):Int)
  ·refine Au 9 0 [1] [[oT]] [BT ((t:Int)<((Jr y118:Nat):Int))] [(Bz z),(BG n2),(FV n25),(14,Ac p),(Hg c b111 o112),(FU c),(111,Ac p),(J8 y118),(125,Ac t),(126,.bool true)] rfl ⟨bt,Ae⟩ ?_
   refine DX 15 [0,1,2,3,4,5,6,7,9,10] [(Ak w),(C9 c z),(CG z),(Fh n2 c k),(Ll n2 c csG b119 psG cP2 aC cC),(Na c b119 psG cP2 z p t aT cT),(D5 csG z),(DC csG aC cC z),(Jg psG z p),(JR n109 y118)] rfl rfl ?_
   refine CU [(0,o0),(1,(a1 4)),(2,o0),(3,o0),(4,(a1 4)),(5,o0),(6,(oi p)),(7,o0),(8,(oa [.via 5 (.slice aT ((FP c p t).length) cT)])),(9,o0)] [2,5,13,14,109,110,111,124,125,128,129,135,136] [Qb (n2+1),Qb (n2+1),CW p,p<psG.length,Ce,∀ w',Ch.holds (Na c b119 psG cP2 z p t aT cT) w'→w'.cell? ⟨b119,0+GZ 5 p+4,none⟩=some (.slice aT ((FP c p t).length) cT)] (D7 10 6) [(Bz z),(BG n2),(FV n25),(14,Ac p),(Hg c b111 o112),(FU c),(111,Ac p),(J8 y118),(125,Ac t),(128,.slice (some ⟨b119,0,none⟩) psG.length cP2),(129,Ac p),(135,.slice aT ((FP c p t).length) cT),(136,.func (.func 77) #[] #[pt n25])] ⟨rfl,rfl,rfl,(by omega),rfl,Fp (sz:=5) (j:=p) (k:=4) (fun _=>rfl) (by first | omega | (rw[List.length_set];omega)) (by rw[NM (by omega)];rfl),Ae⟩ ?_
   refine Bl 10 ?_
   refine IG [] [] 77 #[i6 1,pt n25] (some 137) (by as_aux_lemma=>kernel_rfl) rfl rfl Ae ?_
   intro w131 hw131
   refine Cb (args:=[i6 1,pt n25]) 10 ⟨w,n129,(Qs n2 c csG k b119 psG cP2 aC cC z n25 p t n109 y118 aT cT w)⟩ Tryd.func77 rfl (by kernel_rfl) (by kernel_rfl) hw131 ?_
   refine q_c 17 0 [] [[o0],[(a1 8),o0],[(a1 8),o0,(ov (i6 ((Ec c p+1+(t:Int))+1))),(a1 8)],[o0,o0]] [Qb n25,Qb n25,Wr ((Ec c p+1+(t:Int):Int)+1) ((Ec c p+1+(t:Int))+1),Qb n25] [(3,i6 (Ec c p+1+(t:Int)))] ⟨w,n129,[(Ak w),(C9 c z),(CG z),(Fh n2 c k),(Ll n2 c csG b119 psG cP2 aC cC),(Na c b119 psG cP2 z p t aT cT),(D5 csG z),(DC csG aC cC z),(RP c n25 p t),(Jg psG z p),(JR n109 y118),(Qi c z p t aT cT)]⟩ rfl ⟨rfl,rfl,BQ,rfl,Ae⟩ ?_
   refine Az [] [] (i6 (Ec c p+1+(t:Int))) Ae ?_
   intro w132 hw132
   have hs133:=hw132
   refine⟨_,_,rfl,hs133,.inr (fun c hc=>hs133.all c (by first | exact hc | exact EM (is:=[0,1,2,3,4,5,6,7,9,10]) rfl c hc)), ?_⟩
   refine Dw [2,5,13,14,109,110,111,124,125,128,129,135,137] [(Bz z),(BG n2),(FV n25),(14,Ac p),(Hg c b111 o112),(FU c),(111,Ac p),(J8 y118),(125,Ac t),(128,.slice (some ⟨b119,0,none⟩) psG.length cP2),(129,Ac p),(135,.slice aT ((FP c p t).length) cT),(137,i6 (Ec c p+1+(t:Int)))] ?_
   refine Bl 11 ?_
   refine BA o0 [2,5,13,14,109,110,111,124,125,128,129,135,138] [] [(Bz z),(BG n2),(FV n25),(14,Ac p),(Hg c b111 o112),(FU c),(111,Ac p),(J8 y118),(125,Ac t),(128,.slice (some ⟨b119,0,none⟩) psG.length cP2),(129,Ac p),(135,.slice aT ((FP c p t).length) cT),(138,.slice (some ⟨n129,0,none⟩) 1 1)] ⟨w,n129+1,[(Ak w),(C9 c z),(CG z),(Fh n2 c k),(Ll n2 c csG b119 psG cP2 aC cC),(Na c b119 psG cP2 z p t aT cT),(D5 csG z),(DC csG aC cC z),(RP c n25 p t),(Jg psG z p),(JR n109 y118),(Qi c z p t aT cT),(bk n129 #[i6 (Ec c p+1+(t:Int))] 3)]⟩ [0,1,2,3,4,5,6,7,9,10] Ae (.inr rfl) ?_
   refine Bl 12 ?_
   refine PO z 11 12 (FP c p t) [Ec c p+1+(t:Int)] (fun x:Int=>[i6 x]) 3 1 8 (.slice aT ((FP c p t).length) cT) n129 1 1 #[i6 (Ec c p+1+(t:Int))] 3 (0,0) true (some 139) [0,1,2,3,4,5,6,7,9,10] (by simp only[List.length_cons,List.length_nil];omega) (show z≤n129+1 by omega) (.inr ⟨rfl,rfl⟩) (fun ax134 cp135 n136 (hn137:n129+1≤n136) => ?_)
   refine Dw [2,5,13,14,109,110,111,124,125,128,129,139] [(Bz z),(BG n2),(FV n25),(14,Ac p),(Hg c b111 o112),(FU c),(111,Ac p),(J8 y118),(125,Ac t),(128,.slice (some ⟨b119,0,none⟩) psG.length cP2),(129,Ac p),(139,.slice ax134 (((FP c p t)++[Ec c p+1+(t:Int)]).length) cp135)] ?_
   refine CU [(13,(oi p)),(14,o0)] [2,5,13,14,109,110,111,124,125,139,141] [CW p,p<psG.length,Ce] (D7 15 1) [(Bz z),(BG n2),(FV n25),(14,Ac p),(Hg c b111 o112),(FU c),(111,Ac p),(J8 y118),(125,Ac t),(139,.slice ax134 (((FP c p t)++[Ec c p+1+(t:Int)]).length) cp135),(141,.pointer (some ⟨b119,0+GZ 5 p+4,none⟩))] ⟨rfl,(by omega),rfl,Ae⟩ ?_
   refine Bl 15 ?_
   refine UA 5 p 4 (psG.set p (⟨CV c p,CV c p+2,CV c p+2+17,Ec c p,(⟨aT,cT,FP c p t⟩:Sl Int)⟩:Aq)) (⟨CV c p,CV c p+2,CV c p+2+17,Ec c p,(⟨ax134,cp135,((FP c p t)++[Ec c p+1+(t:Int)])⟩:Sl Int)⟩:Aq) Aq.cells z 70 5 b119 psG.length cP2 (.slice ax134 (((FP c p t)++[Ec c p+1+(t:Int)]).length) cp135) none [] (by first | omega | (rw[List.length_set];omega)) (by first | (rw[hp1 p (Nat.le_refl _) (by omega)];rfl) | (rw[NM (by omega)];rfl)) (.inl rfl) ?_
   refine Dw [2,5,13,14,109,110,111,124,125] [(Bz z),(BG n2),(FV n25),(14,Ac p),(Hg c b111 o112),(FU c),(111,Ac p),(J8 y118),(125,Ac t)] ?_
   refine DU 16 [0,1,2,3,4,5,6,7,8,9,10,11,12] [(Ak w),(C9 c z),(CG z),(Fh n2 c k),(Ll n2 c csG b119 psG cP2 aC cC),(UY c b119 psG cP2 z p t aT cT ax134 cp135),(D5 csG z),(DC csG aC cC z),(RP c n25 p t),(Jg psG z p),(JR n109 y118),(Cm z 3 1 (fun x:Int=>[i6 x]) (.slice ax134 (((FP c p t)++[Ec c p+1+(t:Int)]).length) cp135) ((FP c p t)++[Ec c p+1+(t:Int)])),(bk n129 #[i6 (Ec c p+1+(t:Int))] 3)] rfl rfl ?_
   refine CO ?_
   refine LX 4 0 [] [[(ov (i6 ((t+1:Nat):Int))),o0]] [Wr ((t:Int)+1) (((t+1:Nat):Int))] [(Bz z),(BG n2),(FV n25),(14,Ac p),(Hg c b111 o112),(FU c),(111,Ac p),(J8 y118),(125,i6 ((t+1:Nat):Int))] rfl ⟨BQ,Ae⟩ ?_
   refine BX [0,1,2,3,4,5,6,7,8,9,10,11] [(Ak w),(C9 c z),(CG z),(Fh n2 c k),(Ll n2 c csG b119 psG cP2 aC cC),(UY c b119 psG cP2 z p t aT cT ax134 cp135),(D5 csG z),(DC csG aC cC z),(RP c n25 p t),(Jg psG z p),(JR n109 y118),(Cm z 3 1 (fun x:Int=>[i6 x]) (.slice ax134 (((FP c p t)++[Ec c p+1+(t:Int)]).length) cp135) ((FP c p t)++[Ec c p+1+(t:Int)]))] rfl rfl ?_
   refine BK [2,5,13,14,109,110,111,124,125] [(Bz z),(BG n2),(FV n25),(14,Ac p),(Hg c b111 o112),(FU c),(111,Ac p),(J8 y118),(125,i6 ((t+1:Nat):Int))] ?_
   refine BO (fun a w' hs=>⟨(Jr y118) - (t+1),by omega,n136,(t+1),ax134,cp135,rfl,by omega,by omega,by(try dsimp only[Jn,Ll,EO,Ho,PD,CG,Iz,RP,Qr,IK,JR,NS,Fh,Ew,C9,UY,Na,Qi,Jg,DK,IJ,OH,DC,D5,Hg,Dy,MW,G8,IM,FV,Ci,Jp,ED,FU,FX,Dh,J8,BG,Bz,Gy,DF,Qs,OB,Jb,II]at hs ⊢);simp only[List.set_set]at hs;rw[show Ec c p+1+((t+1:Nat):Int)=Ec c p+1+(t:Int)+1 from by omega,Yc];exact hs⟩)
  refine Au 13 0 [0] [[oF],[(ov (i6 ((p+1:Nat):Int))),o0]] [BF ((t:Int)<((Jr y118:Nat):Int)),Wr ((p:Int)+1) (((p+1:Nat):Int))] [(Bz z),(BG n2),(FV n25),(Hg c b111 o112),(FU c),(111,i6 ((p+1:Nat):Int))] rfl ⟨bf,BQ,Ae⟩ ?_
  refine e_fam 9 11 [0,1,2,3,4,5,6,7,8,10] [(Ak w),(C9 c z),(CG z),(Fh n2 c k),(Ll n2 c csG b119 psG cP2 aC cC),(Na c b119 psG cP2 z p t aT cT),(D5 csG z),(DC csG aC cC z),(Qr c n25 p t),(JR n109 y118)] ?_
  refine BX [0,1,2,3,4,5,6,7,8,10] [(Ak w),(C9 c z),(CG z),(Fh n2 c k),(Ll n2 c csG b119 psG cP2 aC cC),(Na c b119 psG cP2 z p t aT cT),(D5 csG z),(DC csG aC cC z),(Qr c n25 p t),(IP z 3 1 (fun x:Int=>[i6 x]) ((psG.take p).map Aq.Tables++[⟨aT,cT,(FP c p t)⟩]))] rfl rfl ?_
  refine GR [2,5,13,109,110,111] [(Bz z),(BG n2),(FV n25),(MW c),(FU c),(111,i6 ((p+1:Nat):Int))] (by(try dsimp only[Jn,Ll,EO,Ho,PD,CG,Iz,RP,Qr,IK,JR,NS,Fh,Ew,C9,UY,Na,Qi,Jg,DK,IJ,OH,DC,D5,Hg,Dy,MW,G8,IM,FV,Ci,Jp,ED,FU,FX,Dh,J8,BG,Bz,Gy,DF,Qs,OB,Jb,II]);simp only[ha113];rfl) ?_
  refine BO (fun a w' hs=>⟨c.Aa.xs.length - (p+1),by omega,n129,(p+1),(psG.set p (⟨CV c p,CV c p+2,CV c p+2+17,Ec c p,(⟨aT,cT,FP c p t⟩:Sl Int)⟩:Aq)),(some ⟨b119,0,none⟩),cP2,rfl,by omega,by omega,by rw[List.length_set];exact hpl,fun q h1 h2=>by rw[Wv (by omega) (by omega)];exact hp1 q (by omega) h2,fun q hq=>if e:q=p then(by rw[e];exact⟨aT,cT,by rw[NM (by omega),←hy118,show Jr y118=t by omega];rfl⟩)else(by rw[Wv (fun e2=>e e2.symm) (by omega)];exact hp2 q (by omega)),by(try dsimp only[Jn,Ll,EO,Ho,PD,CG,Iz,RP,Qr,IK,JR,NS,Fh,Ew,C9,UY,Na,Qi,Jg,DK,IJ,OH,DC,D5,Hg,Dy,MW,G8,IM,FV,Ci,Jp,ED,FU,FX,Dh,J8,BG,Bz,Gy,DF,Qs,OB,Jb,II]at hs ⊢);rw[take_set_succ (by omega),List.map_append,List.length_set,show Ec c (p+1)=Ec c p+1+(t:Int)from by rw[Uw,←hy118];omega];exact hs⟩)
 refine Au 12 1 [0] [[oF],[o0]] [BF ((p:Int)<(c.Aa.xs.length:Int))] [(Bz z),(BG n2),(144,.func (.func 77) #[] #[pt n25])] rfl ⟨bf,Ae⟩ ?_
 refine l_call [] [] 77 #[i6 0,pt n25] (some 145) Ae ?_
 intro w138 hw138
 refine Cb (args:=[i6 0,pt n25]) 10 ⟨w,n109,(OB n2 c csG k psG cP2 aC cC aP2 z n25 p w)⟩ Tryd.func77 rfl (by kernel_rfl) (by kernel_rfl) hw138 ?_
 refine Au 17 0 [] [[o0],[(a1 8),o0],[(a1 8),o0,(ov (i6 (Ec c p))),(a1 8)],[o0,o0]] [Qb n25,Qb n25,Wr ((Ec c p:Int)+0) (Ec c p),Qb n25] [(3,i6 (Ec c p))] rfl ⟨rfl,rfl,BQ,rfl,Ae⟩ ?_
 refine Az [] [] (i6 (Ec c p)) Ae ?_
 intro w139 hw139
 refine⟨_,_,rfl,hw139, ?_⟩
 refine F8 7 0 [] [[o0,(a1 4)],[(an 4 4),(an 4 2),o0]] [Qb (n2+1),Qb (n2+1),Qb (n2+1),Qb (n2+1),Qb (n2+1),Qb (z+1),Qb (z+1),Qb (z+1),Qb (z+1)] [(Bz z),(3,i6 0)] ⟨w,n109,[(Ak w),(C9 c z),(bk (z+1) #[i6 (c.Kernel*16),.slice aP2 psG.length cP2,.slice aC csG.length cC,i6 (Ec c p)] 60),(Fh n2 c k),(bk (n2+1) #[i6 (c.Kernel*16),.slice aP2 psG.length cP2,.slice aC csG.length cC,i6 (Ec c p)] 60),(OH psG cP2 aP2 z),(D5 csG z),(DC csG aC cC z),(NS c n25 p),(Jg psG z p)]⟩ rfl ⟨rfl,rfl,rfl,rfl,rfl,rfl,rfl,rfl,rfl,Ae⟩ ?_
 refine Az [.at 2,.at 2,.at 2,.at 2] [Qb (z+1),Qb (z+1),Qb (z+1),Qb (z+1)] (.tuple #[.agg #[i6 (c.Kernel*16),.slice aP2 psG.length cP2,.slice aC csG.length cC,i6 (Ec c p)],i6 0]) ⟨rfl,rfl,rfl,rfl,Ae⟩ ?_
 intro w140 hw140
 have hL:VG c ⟨c.Kernel*16,⟨aP2,cP2,psG⟩,⟨aC,cC,csG⟩,Ec c p⟩:=⟨rfl,by rw[show p=c.Aa.xs.length by omega],hpl,fun q hq=>hp2 q (by omega),by simp only;omega,fun q hq=>hcs q (by omega)⟩
 have hO:WE z w140 ⟨c.Kernel*16,⟨aP2,cP2,psG⟩,⟨aC,cC,csG⟩,Ec c p⟩:=⟨w,by
  have h4:=hw140.pick [5,7,6,9] rfl rfl
  rw[hw140.size]
  unfold layS
  (try dsimp only[Jn,Ll,EO,Ho,PD,CG,Iz,Qr,IK,JR,NS,Fh,Ew,C9,Na,Qi,Jg,DK,IJ,OH,DC,D5,Hg,Dy,MW,G8,IM,FV,Ci,Jp,ED,FU,FX,Dh,J8,BG,Bz,Gy,DF,Qs,OB,Jb,II]at h4)
  rw[List.take_of_length_le (by omega)]at h4
  exact h4⟩
 exact⟨_,rfl,hL,hz ▸ lay_ok hfine hL hO,hz ▸ hO,AA hw140⟩
def JL(c:Ai):Int:=if Ej c=true then Ec c c.Aa.xs.length - c.Kernel else 0
def errOf(c:Ai):Int:=if Ej c=true then 0 else 150
theorem need_calls(w:World)(c:Ai)(hc:Ai.ok Any w c):Calls Tryd.prog 100 #[.agg (Ai.arr c)] w fun e w'=>e = .returned (.tuple #[.int .i64 (JL c),.int .i64 (errOf c)])∧CE (fun _=>False) w w':=by
 obtain⟨z,hz⟩:∃ z,z=w.heap.size:=⟨_,rfl⟩
 refine Cb (args:=[.agg (Ai.arr c)]) 19 ⟨w,z,[(Ak w)]⟩ Tryd.func100 rfl (by kernel_rfl) (by kernel_rfl) (Em hz) ?_
 refine DI [0] [(0,.agg (Ai.arr c))] ?_
 refine q_c 6 1 [] [[o0,o0,o0],[(an 7 1)]] [Qb z,Qb z,Qb z,Qb z,Qb z,Qb z,Qb z] [(1,pt z),(7,.agg (Ai.arr c))] ⟨w,z+1,[(Ak w),(bk z (Ai.arr c) 26)]⟩ rfl ⟨rfl,rfl,rfl,rfl,rfl,rfl,rfl,Ae⟩ ?_
 refine l_call [] [] 18 #[.agg (Ai.arr c)] (some 8) Ae ?_
 intro w1 hw1
 by_cases hok2:Ej c=true
 ·refine(of_yes w1 c (hc.ext (hw1.ext rfl) (fun _ h=>h)) hok2).mono ?_
  rintro e w3 ⟨lw3,rfl,hIw3,hLw3,hOw3,hkw3⟩
  have hfw3:=TM hok2;have hknw3:=hfw3.kn;have hEw3:=hIw3.fin;have hEbw3:=QO hfw3 _ (Nat.le_refl _);have hpnw3:=hfw3.pn
  rw[hw1.size]at hLw3 hOw3
  have hnw3:z+1≤w3.heap.size:=I5 hw1 hkw3
  refine⟨_,_,rfl,hw1.Ud hkw3, ?_⟩
  refine F8 15 0 [0] [[o0,o0,o0,o0,(an 4 3),o0],[o0,o0],[o0,(a1 3),o0,(a1 1),(ov (i6 (lw3.End - c.Kernel))),o0,o0]] [Qb w3.heap.size,Qb w3.heap.size,Qb w3.heap.size,Qb w3.heap.size,Qb w3.heap.size,Qb z,Wr ((lw3.End:Int) - c.Kernel) (lw3.End - c.Kernel)] [(2,i6 (lw3.End - c.Kernel)),(3,i6 0)] ⟨w,w3.heap.size+1,[(Ak w),(bk z (Ai.arr c) 26),(mid (z+1) w3),(.blk w3.heap.size (.cells (G9.arr lw3) 60 (0,0)) true)]⟩ rfl ⟨rfl,rfl,rfl,rfl,rfl,rfl,BQ,Ae⟩ ?_
  refine Az [] [] (.tuple #[i6 (lw3.End - c.Kernel),i6 0]) Ae ?_
  intro w4 hw4
  refine⟨?_,AA hw4⟩
  unfold JL errOf;rw[if_pos hok2,if_pos hok2];rw[←hEw3]
 refine(of_no w1 c (hc.ext (hw1.ext rfl) (fun _ h=>h)) (Bool.eq_false_iff.2 hok2)).mono ?_
 rintro e w5 ⟨rfl,hkw5⟩
 have hnw5:z+1≤w5.heap.size:=I5 hw1 hkw5
 refine⟨_,_,rfl,hw1.keeps hkw5, ?_⟩
 refine F8 13 0 [1] [[o0,o0,o0,o0,(an 4 2),o0],[o0,o0],[o0,o0,o0]] [Qb w5.heap.size,Qb w5.heap.size,Qb w5.heap.size,Qb w5.heap.size] [(2,i6 0),(3,i6 150)] ⟨w,w5.heap.size+1,[(Ak w),(bk z (Ai.arr c) 26),(.blk w5.heap.size (.cells #[i6 0,.slice none 0 0,.slice none 0 0,i6 0] 60 (0,0)) true)]⟩ rfl ⟨rfl,rfl,rfl,rfl,Ae⟩ ?_
 refine Az [] [] (.tuple #[i6 0,i6 150]) Ae ?_
 intro w6 hw6
 refine⟨?_,AA hw6⟩
 unfold JL errOf;rw[if_neg hok2,if_neg hok2]
end Go.Proofs.YtjdmhijaanmccaaDoor.Ly
namespace Go.Proofs.YtjdmhijaanmccaaDoor.Ad
open Go Go.Proofs.YtjdmhijaanmccaaDoor.Eng Go.Proofs.YtjdmhijaanmccaaDoor.Mem Go.Proofs.YtjdmhijaanmccaaDoor.Ly
set_option linter.unusedSimpArgs false
set_option linter.unusedVariables false
set_option maxRecDepth 100000
def Wx(c:Ai)(q n:Nat):Bool:=meet (DV c q n).Frame (DV c q n).AL c.Kernel c.Room
def Uc(c:Ai)(q:Nat):Bool:=(List.range (Ey c q).Ah.xs.length).any (Wx c q)
def F9(c:Ai):Bool:=win c.Kernel 0 (c.Frames - 1)&&win c.Room 1 (c.Frames - c.Kernel) && !(List.range c.Aa.xs.length).any (Uc c)&&(decide (errOf c=0)&&decide (JL c≤c.Room))
section
variable (n12:Nat)(y21:Ar)(z:Nat)(c:Ai)(b14 o15:Nat)(b25 o26:Nat)
abbrev SC:=bk n12 (Ar.arr y21) 52
abbrev NZ:=bk z (Ai.arr c) 26
abbrev MI:Dk:=(28,.slice (some ⟨b14,o15,none⟩) c.Aa.xs.length c.Aa.cap)
abbrev Uk:Dk:=(35,.slice (some ⟨b25,o26,none⟩) y21.Ah.xs.length y21.Ah.cap)
abbrev QW:Dk:=(28,.slice c.Aa.a c.Aa.xs.length c.Aa.cap)
abbrev SH:Dk:=(35,.slice y21.Ah.a y21.Ah.xs.length y21.Ah.cap)
abbrev JV:=(29,Ac c.Aa.xs.length)
abbrev Oz:=(36,Ac y21.Ah.xs.length)
end
theorem kernel_calls(w:World)(hL:Jm w)(c:Ai)(hc:Ai.ok Any w c)(hFr:1≤c.Frames∧c.Frames≤1024)(hpf:∀ q,q<c.Aa.xs.length→CP c q=AQ):Calls Tryd.prog 75 #[.agg (Ai.arr c)] w fun e w'=>e = .returned (.bool (F9 c))∧CE (fun _=>False) w w':=by
 obtain⟨z,hz⟩:∃ z,z=w.heap.size:=⟨_,rfl⟩
 refine Cb (args:=[.agg (Ai.arr c)]) 65 ⟨w,z,[(Ak w)]⟩ Tryd.func75 rfl (by kernel_rfl) (by kernel_rfl) (Em hz) ?_
 have hpl:=hc.Aa.1.len;have hkk:(-9223372036854775808:Int)≤c.Kernel∧c.Kernel≤9223372036854775807:=hc.Kernel;have hrr:(-9223372036854775808:Int)≤c.Room∧c.Room≤9223372036854775807:=hc.Room
 refine DI [0] [(0,.agg (Ai.arr c))] ?_
 refine q_c 7 5 [] [[o0,o0],[o0,(a1 1),o0,(a1 1),(ov (i6 (c.Frames - 1)))]] [Qb z,Qb z,Wr ((c.Frames:Int) - 1) (c.Frames - 1)] [(1,pt z),(10,i6 c.Kernel),(13,i6 (c.Frames - 1))] ⟨w,z+1,[(Ak w),(NZ z c)]⟩ rfl ⟨rfl,rfl,BQ,Ae⟩ ?_
 refine AY 63 #[i6 c.Kernel,i6 0,i6 (c.Frames - 1)] (some 14) (.bool (win c.Kernel 0 (c.Frames - 1))) (fun w1 hw1=>BV w1 c.Kernel 0 (c.Frames - 1)) (fun n2 (hn3:z+1≤n2) => ?_)
 refine Dc [1,14] [(1,pt z),(14,.bool (win c.Kernel 0 (c.Frames - 1)))] ?_
 by_cases h4:(win c.Kernel 0 (c.Frames - 1))=true
 ·have hd5:=DD h4
  refine Bq 0 9 [] [[(ov (.bool false)),o0,o0,(a1 1),o0,(a1 1),o0,(a1 1),(ov (i6 (c.Frames - c.Kernel)))]] [Value.bool (!(win c.Kernel 0 (c.Frames - 1)))=Value.bool false,Qb z,Qb z,Qb z,Wr ((c.Frames:Int) - c.Kernel) (c.Frames - c.Kernel)] [(1,pt z),(16,.bool false),(18,i6 c.Room),(23,i6 (c.Frames - c.Kernel))] rfl ⟨by simp[h4],rfl,rfl,rfl,BQ,Ae⟩ ?_
  refine AY 63 #[i6 c.Room,i6 1,i6 (c.Frames - c.Kernel)] (some 24) (.bool (win c.Room 1 (c.Frames - c.Kernel))) (fun w6 hw6=>BV w6 c.Room 1 (c.Frames - c.Kernel)) (fun n7 (hn8:n2≤n7) => ?_)
  refine Dc [1,16,24] [(1,pt z),(16,.bool false),(24,.bool (win c.Room 1 (c.Frames - c.Kernel)))] ?_
  by_cases h9:(win c.Room 1 (c.Frames - c.Kernel))=true
  ·have hd10:=DD h9
   refine Bq 11 0 [0] [[(ov (.bool false)),o0],[o0,(a1 1),o0,o0]] [Value.bool (!(win c.Room 1 (c.Frames - c.Kernel)))=Value.bool false,Qb z] [(1,pt z),(QW c),(JV c),(30,i6 0)] rfl ⟨by simp[h9],rfl,Ae⟩ ?_
   refine Du (fun m a w'=>∃ (n12:Nat) (q:Nat),m=c.Aa.xs.length - q∧n7≤n12∧(q≤c.Aa.xs.length)∧(∀ a,a<q→Uc c a=false)∧St 65 [(1,pt z),(QW c),(JV c),(30,Ac q)] [] ⟨w,n12,[(Ak w),(NZ z c)]⟩ a w') (c.Aa.xs.length - 0) ?_ ?_
   ·intro a w' hs;exact⟨n7,0,rfl,Nat.le_refl _,Nat.zero_le _,fun i hi=>absurd hi (Nat.not_lt_zero i),hs⟩
   rintro m a w' ⟨n12,q,rfl,hn11,hkq,hg,hs⟩
   refine(?_:G Tryd.prog 65 [(1,pt z),(QW c),(JV c),(30,Ac q)] [] ⟨w,n12,[(Ak w),(NZ z c)]⟩ _ _ _) a w' hs
   clear hs a w'
   refine CB ?_
   by_cases h13:(q:Int)<(c.Aa.xs.length:Int)
   ·refine Au 10 0 [1] [[oT]] [BT ((q:Int)<(c.Aa.xs.length:Int))] [(1,pt z),(QW c),(JV c),(30,Ac q),(31,.bool true)] rfl ⟨bt,Ae⟩ ?_
    obtain⟨b14,o15,ha16,hF18,hc17⟩:=(hc.Aa).1.all (show 0<c.Aa.xs.length by omega)
    replace ha16:c.Aa.a=some ⟨b14,o15,none⟩:=ha16
    refine LH [(1,pt z),(MI c b14 o15),(JV c),(30,Ac q),(31,.bool true)] (by(try dsimp only[NZ,MI,QW,JV]);simp only[ha16]) ?_
    have hc19:=hc17 q (show q<c.Aa.xs.length by omega)
    have he20:=(hc.Aa).2 q (show q<c.Aa.xs.length by omega)
    obtain⟨y21,hy21⟩:∃ y_,y_=gd c.Aa.xs q:=⟨_,rfl⟩
    rw[←hy21]at he20 hc19
    have hyly21:=he20.Ah.1.len
    refine q_c 8 0 [] [[(oi q),(ol 0 (Ar.arr y21)),o0,(an 8 2)],[o0,(a1 2),o0,o0]] [CW q,q<c.Aa.xs.length,Ce,GU w b14 (o15+q*8) (Ar.arr y21),Qb n12,Qb n12,Qb n12,Qb n12,Qb n12,Qb n12,Qb n12,Qb n12,Qb n12] [(1,pt z),(MI c b14 o15),(JV c),(30,Ac q),(SH y21),(Oz y21),(37,i6 0)] ⟨w,n12+1,[(Ak w),(NZ z c),(SC n12 y21)]⟩ rfl ⟨rfl,(by omega),rfl,Ei hc19,rfl,rfl,rfl,rfl,rfl,rfl,rfl,rfl,rfl,Ae⟩ ?_
    refine Du (fun m a w'=>∃ (n23:Nat) (n:Nat),m=y21.Ah.xs.length - n∧n12+1≤n23∧(n≤y21.Ah.xs.length)∧(∀ a,a<n→Wx c q a=false)∧St 65 [(1,pt z),(MI c b14 o15),(JV c),(30,Ac q),(SH y21),(Oz y21),(37,Ac n)] [] ⟨w,n23,[(Ak w),(NZ z c),(SC n12 y21)]⟩ a w') (y21.Ah.xs.length - 0) ?_ ?_
    ·intro a w' hs;exact⟨(n12+1),0,rfl,Nat.le_refl _,Nat.zero_le _,fun i hi=>absurd hi (Nat.not_lt_zero i),hs⟩
    rintro m a w' ⟨n23,n,rfl,hn22,hkn,hh,hs⟩
    refine(?_:G Tryd.prog 65 [(1,pt z),(MI c b14 o15),(JV c),(30,Ac q),(SH y21),(Oz y21),(37,Ac n)] [] ⟨w,n23,[(Ak w),(NZ z c),(SC n12 y21)]⟩ _ _ _) a w' hs
    clear hs a w'
    refine CB ?_
    by_cases h24:(n:Int)<(y21.Ah.xs.length:Int)
    ·refine Au 10 0 [1] [[oT]] [BT ((n:Int)<(y21.Ah.xs.length:Int))] [(1,pt z),(MI c b14 o15),(JV c),(30,Ac q),(SH y21),(Oz y21),(37,Ac n),(38,.bool true)] rfl ⟨bt,Ae⟩ ?_
     obtain⟨b25,o26,ha27,hF29,hc28⟩:=(he20.Ah).1.all (show 0<y21.Ah.xs.length by omega)
     replace ha27:y21.Ah.a=some ⟨b25,o26,none⟩:=ha27
     refine LH [(1,pt z),(MI c b14 o15),(JV c),(30,Ac q),(Uk y21 b25 o26),(Oz y21),(37,Ac n),(38,.bool true)] (by(try dsimp only[SC,NZ,MI,Uk,QW,SH,JV,Oz]);simp only[ha27]) ?_
     have hc30:=hc28 n (show n<y21.Ah.xs.length by omega)
     have he31:=(he20.Ah).2 n (show n<y21.Ah.xs.length by omega)
     obtain⟨y32,hy32⟩:∃ y_,y_=gd y21.Ah.xs n:=⟨_,rfl⟩
     rw[←hy32]at he31 hc30
     refine q_c 5 8 [] [[(oi n),(ol 0 (BB.arr y32)),o0,(an 4 3)],[o0,(a1 3),o0,(a1 3),o0,(a1 1),o0,(a1 1)]] [CW n,n<y21.Ah.xs.length,Ce,GU w b25 (o26+n*4) (BB.arr y32),Qb n23,Qb n23,Qb n23,Qb n23,Qb n23,Qb n23,Qb z,Qb z] [(1,pt z),(MI c b14 o15),(JV c),(30,Ac q),(Uk y21 b25 o26),(Oz y21),(37,Ac n),(42,i6 y32.Frame),(44,i6 y32.AL),(46,i6 c.Kernel),(48,i6 c.Room)] ⟨w,n23+1,[(Ak w),(NZ z c),(SC n12 y21),(bk n23 (BB.arr y32) 103)]⟩ rfl ⟨rfl,(by omega),rfl,Ei hc30,rfl,rfl,rfl,rfl,rfl,rfl,rfl,rfl,Ae⟩ ?_
     have hm34:=Uh hFr.2 (Ot (hpf q (by omega))) n (by dsimp only[Ey];rw[←hy21];omega);dsimp only[DV]at hm34;rw[←hy21,←hy32]at hm34;unfold Bd at hm34
     refine AY 99 #[i6 y32.Frame,i6 y32.AL,i6 c.Kernel,i6 c.Room] (some 49) (.bool (meet y32.Frame y32.AL c.Kernel c.Room)) (fun w33 hw33=>SV w33 y32.Frame y32.AL c.Kernel c.Room (by omega) (by omega) (by omega) (by omega)) (fun n35 (hn36:n23+1≤n35) => ?_)
     refine Dc [1,28,29,30,35,36,37,49] [(1,pt z),(MI c b14 o15),(JV c),(30,Ac q),(Uk y21 b25 o26),(Oz y21),(37,Ac n),(49,.bool (meet y32.Frame y32.AL c.Kernel c.Room))] ?_
     refine U5 (by kernel_rfl) ?_
     refine GG ?_
     by_cases h37:(meet y32.Frame y32.AL c.Kernel c.Room)=true
     ·refine Au 6 0 [3] [[o0]] [Value.bool (meet y32.Frame y32.AL c.Kernel c.Room)=Value.bool true] [(2,.bool false)] rfl ⟨(congrArg Value.bool h37),Ae⟩ ?_
      refine Az [] [] (.bool false) Ae ?_
      intro w38 hw38
      refine⟨congrArg (fun b=>Ending.returned (Value.bool b)) (?_:false=F9 c),AA hw38⟩
      have en:DV c q n=y32:=(by dsimp only[DV];rw[←hy21,←hy32])
      have eo:(List.range c.Aa.xs.length).any (Uc c)=true:=range_any (k:=q) (by omega) (range_any (k:=n) (by dsimp only[Ey];rw[←hy21];omega) (by unfold Wx;rw[en];exact h37))
      unfold F9;simp[eo]
     refine Au 6 0 [2] [[(ov (i6 ((n+1:Nat):Int))),o0]] [Value.bool (meet y32.Frame y32.AL c.Kernel c.Room)=Value.bool false,Wr ((n:Int)+1) (((n+1:Nat):Int))] [(1,pt z),(MI c b14 o15),(JV c),(30,Ac q),(Uk y21 b25 o26),(Oz y21),(37,i6 ((n+1:Nat):Int))] rfl ⟨(congrArg Value.bool (Bool.eq_false_iff.2 h37)),BQ,Ae⟩ ?_
     refine BX [0,1,2] [(Ak w),(NZ z c),(SC n12 y21)] rfl rfl ?_
     refine GR [1,28,29,30,35,36,37] [(1,pt z),(MI c b14 o15),(JV c),(30,Ac q),(SH y21),(Oz y21),(37,i6 ((n+1:Nat):Int))] (by(try dsimp only[SC,NZ,MI,Uk,QW,SH,JV,Oz]);simp only[ha27];rfl) ?_
     refine BO (fun a w' hs=>⟨y21.Ah.xs.length - (n+1),by omega,n35,(n+1),rfl,by omega,by omega,EP hh (by have en:DV c q n=y32:=(by dsimp only[DV];rw[←hy21,←hy32]);unfold Wx;rw[en];simpa using h37),hs⟩)
    refine Au 13 0 [0] [[oF],[(ov (i6 ((q+1:Nat):Int))),o0]] [BF ((n:Int)<(y21.Ah.xs.length:Int)),Wr ((q:Int)+1) (((q+1:Nat):Int))] [(1,pt z),(MI c b14 o15),(JV c),(30,i6 ((q+1:Nat):Int))] rfl ⟨bf,BQ,Ae⟩ ?_
    refine BX [0,1] [(Ak w),(NZ z c)] rfl rfl ?_
    refine GR [1,28,29,30] [(1,pt z),(QW c),(JV c),(30,i6 ((q+1:Nat):Int))] (by(try dsimp only[SC,NZ,MI,Uk,QW,SH,JV,Oz]);simp only[ha16];rfl) ?_
    refine BO (fun a w' hs=>⟨c.Aa.xs.length - (q+1),by omega,n23,(q+1),rfl,by omega,by omega,EP hg (Gu (fun i hi=>hh i (by dsimp only[Ey]at hi;rw[←hy21]at hi;omega))),hs⟩)
   refine Au 12 1 [0] [[oF],[(an 7 1)]] [BF ((q:Int)<(c.Aa.xs.length:Int)),Qb z,Qb z,Qb z,Qb z,Qb z,Qb z,Qb z] [(1,pt z),(53,.agg (Ai.arr c))] rfl ⟨bf,rfl,rfl,rfl,rfl,rfl,rfl,rfl,Ae⟩ ?_
   refine AY 100 #[.agg (Ai.arr c)] (some 54) (.tuple #[i6 (JL c),i6 (errOf c)]) (fun w39 hw39=>need_calls w39 c (hc.ext (hw39.ext rfl) (fun _ h=>h))) (fun n40 (hn41:n12≤n40) => ?_)
   refine Bq 3 0 [] [[o0,o0,o0,o0,o0]] [] [(1,pt z),(7,i6 (JL c)),(8,i6 (errOf c))] rfl Ae ?_
   by_cases h42:(errOf c:Int)=0
   ·by_cases h43:(c.Room:Int)<JL c
    ·refine Au 4 0 [] [[o0,oT,o0,o0,o0,(a1 1),oF,o0,o0]] [ET (errOf c) 0,Qb z,BF ((JL c:Int)≤c.Room)] [(2,.bool false)] rfl ⟨et,rfl,bf,Ae⟩ ?_
     refine Az [] [] (.bool false) Ae ?_
     intro w44 hw44
     refine⟨congrArg (fun b=>Ending.returned (Value.bool b)) (?_:false=F9 c),AA hw44⟩
     have eo:(List.range c.Aa.xs.length).any (Uc c)=false:=Gu (fun i hi=>hg i (by omega))
     unfold F9;rw[eo];simp[h4,h9];first | done | omega
    refine Au 4 0 [] [[o0,oT,o0,o0,o0,(a1 1),oT,o0,o0]] [ET (errOf c) 0,Qb z,BT ((JL c:Int)≤c.Room)] [(2,.bool true)] rfl ⟨et,rfl,bt,Ae⟩ ?_
    refine Az [] [] (.bool true) Ae ?_
    intro w45 hw45
    refine⟨congrArg (fun b=>Ending.returned (Value.bool b)) (?_:true=F9 c),AA hw45⟩
    have eo:(List.range c.Aa.xs.length).any (Uc c)=false:=Gu (fun i hi=>hg i (by omega))
    unfold F9;rw[eo];simp[h4,h9];first | done | omega
   refine Au 4 0 [] [[o0,oF,o0,o0,o0]] [EF (errOf c) 0] [(2,.bool false)] rfl ⟨ef,Ae⟩ ?_
   refine Az [] [] (.bool false) Ae ?_
   intro w46 hw46
   refine⟨congrArg (fun b=>Ending.returned (Value.bool b)) (?_:false=F9 c),AA hw46⟩
   have eo:(List.range c.Aa.xs.length).any (Uc c)=false:=Gu (fun i hi=>hg i (by omega))
   unfold F9;rw[eo];simp[h4,h9];first | done | omega
  have hd47:=FI h9
  refine Bq 8 0 [1] [[(ov (.bool true)),o0],[o0]] [Value.bool (!(win c.Room 1 (c.Frames - c.Kernel)))=Value.bool true] [(2,.bool false)] rfl ⟨by simp[h9],Ae⟩ ?_
  refine Az [] [] (.bool false) Ae ?_
  intro w48 hw48
  refine⟨congrArg (fun b=>Ending.returned (Value.bool b)) (?_:false=F9 c),AA hw48⟩
  unfold F9;simp[h4,h9]
 have hd49:=FI h4
 refine Bq 8 0 [1] [[(ov (.bool true)),o0,o0],[o0]] [Value.bool (!(win c.Kernel 0 (c.Frames - 1)))=Value.bool true] [(2,.bool false)] rfl ⟨by simp[h4],Ae⟩ ?_
 refine Az [] [] (.bool false) Ae ?_
 intro w50 hw50
 refine⟨congrArg (fun b=>Ending.returned (Value.bool b)) (?_:false=F9 c),AA hw50⟩
 unfold F9;simp[h4]
def Gm(c:Ai):Am:=Af (win c.Frames 1 1024) 400 ⟨-1, -1⟩
def whole2(c:Ai):Am:=Af (win c.Gs 1 16384) 401 ⟨-1, -1⟩
def Gg(c:Ai):Am:=Af (win (c.AX.xs.length:Int) 1 4) 402 ⟨-1, -1⟩
def Gi(c:Ai):Am:=Af (win (c.Aa.xs.length:Int) 1 8) 403 ⟨-1, -1⟩
def FH(c:Ai):Am:=Af (decide ((c.Aj.xs.length:Int)≤16)) 404 ⟨-1, -1⟩
def Ir(c:Ai):Am:=Af (F9 c) 423 ⟨-1, -1⟩
theorem q1_calls(w:World)(hL:Jm w)(c:Ai)(hc:Ai.ok Any w c)(bc:Nat)(hbc:∀ (k:Nat) (v:Value),(Ai.cells c)[k]? = some v→w.cell? ⟨bc,0+k,none⟩=some v):Calls Tryd.prog 61 #[.pointer (some ⟨bc,0,none⟩)] w fun e w'=>e = .returned (.agg (Am.arr (Gm c)))∧CE (fun _=>False) w w':=by
 obtain⟨z,hz⟩:∃ z,z=w.heap.size:=⟨_,rfl⟩
 refine Cb (args:=[pt bc]) 7 ⟨w,z,[(Ak w)]⟩ Tryd.func61 rfl (by kernel_rfl) (by kernel_rfl) (Em hz) ?_
 have hpl:=hc.Aa.1.len;have hpc:=hc.AX.1.len;have hpch:=hc.Aj.1.len
 refine DI [0] [(0,pt bc)] ?_
 refine q_c 5 0 [] [[o0]] [] [(0,pt bc),(1,pt z)] ⟨w,z+1,[(Ak w),(bk z #[i6 0,i6 0,i6 0] 111)]⟩ rfl Ae ?_
 refine DX 5 [0,1] [(Ak w),(bk z #[i6 0,i6 0,i6 0] 111)] rfl rfl ?_
 refine KZ [.tk 0 o0,.tk 1 (oa [.via 0 (i6 c.Frames)]),.tk 3 (oa [.via 0 (i6 (-1)),.via 0 (i6 (-1))]),.cl 2 (.bool (win c.Frames 1 1024)),.cl 4 (.agg (Am.arr (Af (win c.Frames 1 1024) 400 ⟨-1, -1⟩)))] [1,6] [(63,#[i6 c.Frames,i6 1,i6 1024],.bool (win c.Frames 1 1024)),(62,#[.bool (win c.Frames 1 1024),i6 400,.agg #[i6 (-1),i6 (-1)]],.agg (Am.arr (Af (win c.Frames 1 1024) 400 ⟨-1, -1⟩)))] (D7 5 1) [Old w bc 0 (i6 c.Frames),Old w 1 0 (i6 (-1)),Old w 1 1 (i6 (-1))] [(1,pt z),(6,.agg (Am.arr (Af (win c.Frames 1 1024) 400 ⟨-1, -1⟩)))] [0,1] ⟨Aw (hbc 0 _ rfl),Aw (hL.1 0 _ rfl),Aw (hL.1 1 _ rfl),Ae⟩ ⟨fun w1 hw1=>BV w1 c.Frames 1 1024,fun w2 hw2=>Bh w2 (hL.ext (hw2.ext rfl)) (win c.Frames 1 1024) 400 (-1) (-1),Ae⟩ (fun n3 hn4 => ?_)
 replace hn4:z+1≤n3:=hn4
 refine Bl 5 ?_
 refine BA (an 3 1) [1] [Qb z,Qb z,Qb z] [(1,pt z)] ⟨w,n3,[(Ak w),(.blk z (.cells (Am.arr (Af (win c.Frames 1 1024) 400 ⟨-1, -1⟩)) 111 (0,0)) true)]⟩ [] ⟨rfl,rfl,rfl,Ae⟩ (.inl rfl) ?_
 refine DU 6 [0,1] [(Ak w),(.blk z (.cells (Am.arr (Af (win c.Frames 1 1024) 400 ⟨-1, -1⟩)) 111 (0,0)) true)] rfl rfl ?_
 refine CO ?_
 refine BK [1] [(1,pt z)] ?_
 refine GG <| Ku <| Az [.at 1,.at 1,.at 1] [Qb z,Qb z,Qb z] (.agg #[i6 ((Af (win c.Frames 1 1024) 400 ⟨-1, -1⟩).e),i6 ((Af (win c.Frames 1 1024) 400 ⟨-1, -1⟩).Ag.First),i6 ((Af (win c.Frames 1 1024) 400 ⟨-1, -1⟩).Ag.Second)]) ⟨rfl,rfl,rfl,Ae⟩ ?_
 intro w5 hw5
 exact⟨congrArg (fun t=>Ending.returned (Value.agg (Am.arr t))) (show(Af (win c.Frames 1 1024) 400 ⟨-1, -1⟩)=Gm c from by unfold Gm;first | rfl | rw[decide_eq_false (by omega)] | rw[decide_eq_true (by omega)]),AA hw5⟩
theorem q2_calls(w:World)(hL:Jm w)(c:Ai)(hc:Ai.ok Any w c)(bc:Nat)(hbc:∀ (k:Nat) (v:Value),(Ai.cells c)[k]? = some v→w.cell? ⟨bc,0+k,none⟩=some v):Calls Tryd.prog 64 #[.pointer (some ⟨bc,0,none⟩)] w fun e w'=>e = .returned (.agg (Am.arr (whole2 c)))∧CE (fun _=>False) w w':=by
 obtain⟨z,hz⟩:∃ z,z=w.heap.size:=⟨_,rfl⟩
 refine Cb (args:=[pt bc]) 7 ⟨w,z,[(Ak w)]⟩ Tryd.func64 rfl (by kernel_rfl) (by kernel_rfl) (Em hz) ?_
 have hpl:=hc.Aa.1.len;have hpc:=hc.AX.1.len;have hpch:=hc.Aj.1.len
 refine DI [0] [(0,pt bc)] ?_
 refine q_c 5 0 [] [[o0]] [] [(0,pt bc),(1,pt z)] ⟨w,z+1,[(Ak w),(bk z #[i6 0,i6 0,i6 0] 111)]⟩ rfl Ae ?_
 refine DX 5 [0,1] [(Ak w),(bk z #[i6 0,i6 0,i6 0] 111)] rfl rfl ?_
 refine KZ [.tk 0 o0,.tk 1 (oa [.via 0 (i6 c.Gs)]),.tk 3 (oa [.via 0 (i6 (-1)),.via 0 (i6 (-1))]),.cl 2 (.bool (win c.Gs 1 16384)),.cl 4 (.agg (Am.arr (Af (win c.Gs 1 16384) 401 ⟨-1, -1⟩)))] [1,6] [(63,#[i6 c.Gs,i6 1,i6 16384],.bool (win c.Gs 1 16384)),(62,#[.bool (win c.Gs 1 16384),i6 401,.agg #[i6 (-1),i6 (-1)]],.agg (Am.arr (Af (win c.Gs 1 16384) 401 ⟨-1, -1⟩)))] (D7 5 1) [Old w bc 1 (i6 c.Gs),Old w 1 0 (i6 (-1)),Old w 1 1 (i6 (-1))] [(1,pt z),(6,.agg (Am.arr (Af (win c.Gs 1 16384) 401 ⟨-1, -1⟩)))] [0,1] ⟨Aw (hbc 1 _ rfl),Aw (hL.1 0 _ rfl),Aw (hL.1 1 _ rfl),Ae⟩ ⟨fun w1 hw1=>BV w1 c.Gs 1 16384,fun w2 hw2=>Bh w2 (hL.ext (hw2.ext rfl)) (win c.Gs 1 16384) 401 (-1) (-1),Ae⟩ (fun n3 hn4 => ?_)
 replace hn4:z+1≤n3:=hn4
 refine Bl 5 ?_
 refine BA (an 3 1) [1] [Qb z,Qb z,Qb z] [(1,pt z)] ⟨w,n3,[(Ak w),(.blk z (.cells (Am.arr (Af (win c.Gs 1 16384) 401 ⟨-1, -1⟩)) 111 (0,0)) true)]⟩ [] ⟨rfl,rfl,rfl,Ae⟩ (.inl rfl) ?_
 refine DU 6 [0,1] [(Ak w),(.blk z (.cells (Am.arr (Af (win c.Gs 1 16384) 401 ⟨-1, -1⟩)) 111 (0,0)) true)] rfl rfl ?_
 refine CO ?_
 refine BK [1] [(1,pt z)] ?_
 refine GG <| Ku <| Az [.at 1,.at 1,.at 1] [Qb z,Qb z,Qb z] (.agg #[i6 ((Af (win c.Gs 1 16384) 401 ⟨-1, -1⟩).e),i6 ((Af (win c.Gs 1 16384) 401 ⟨-1, -1⟩).Ag.First),i6 ((Af (win c.Gs 1 16384) 401 ⟨-1, -1⟩).Ag.Second)]) ⟨rfl,rfl,rfl,Ae⟩ ?_
 intro w5 hw5
 exact⟨congrArg (fun t=>Ending.returned (Value.agg (Am.arr t))) (show(Af (win c.Gs 1 16384) 401 ⟨-1, -1⟩)=whole2 c from by unfold whole2;first | rfl | rw[decide_eq_false (by omega)] | rw[decide_eq_true (by omega)]),AA hw5⟩
section
variable (z:Nat)(c:Ai)
abbrev qis8_0:Ch:= .blk z (.cells (Am.arr (Af (win (c.AX.xs.length:Int) 1 4) 402 ⟨-1, -1⟩)) 111 (0,0)) true
end
theorem q3_calls(w:World)(hL:Jm w)(c:Ai)(hc:Ai.ok Any w c)(bc:Nat)(hbc:∀ (k:Nat) (v:Value),(Ai.cells c)[k]? = some v→w.cell? ⟨bc,0+k,none⟩=some v):Calls Tryd.prog 65 #[.pointer (some ⟨bc,0,none⟩)] w fun e w'=>e = .returned (.agg (Am.arr (Gg c)))∧CE (fun _=>False) w w':=by
 obtain⟨z,hz⟩:∃ z,z=w.heap.size:=⟨_,rfl⟩
 refine Cb (args:=[pt bc]) 8 ⟨w,z,[(Ak w)]⟩ Tryd.func65 rfl (by kernel_rfl) (by kernel_rfl) (Em hz) ?_
 have hpl:=hc.Aa.1.len;have hpc:=hc.AX.1.len;have hpch:=hc.Aj.1.len
 refine DI [0] [(0,pt bc)] ?_
 refine q_c 5 0 [] [[o0]] [] [(0,pt bc),(1,pt z)] ⟨w,z+1,[(Ak w),(bk z #[i6 0,i6 0,i6 0] 111)]⟩ rfl Ae ?_
 refine DX 6 [0,1] [(Ak w),(bk z #[i6 0,i6 0,i6 0] 111)] rfl rfl ?_
 refine KZ [.tk 0 o0,.tk 1 (oa [.via 0 (.slice c.AX.a c.AX.xs.length c.AX.cap)]),.tk 2 o0,.tk 4 (oa [.via 0 (i6 (-1)),.via 0 (i6 (-1))]),.cl 3 (.bool (win (c.AX.xs.length:Int) 1 4)),.cl 5 (.agg (Am.arr (Af (win (c.AX.xs.length:Int) 1 4) 402 ⟨-1, -1⟩)))] [1,7] [(63,#[(Ac c.AX.xs.length),i6 1,i6 4],.bool (win (c.AX.xs.length:Int) 1 4)),(62,#[.bool (win (c.AX.xs.length:Int) 1 4),i6 402,.agg #[i6 (-1),i6 (-1)]],.agg (Am.arr (Af (win (c.AX.xs.length:Int) 1 4) 402 ⟨-1, -1⟩)))] (D7 6 1) [Old w bc 4 (.slice c.AX.a c.AX.xs.length c.AX.cap),Old w 1 0 (i6 (-1)),Old w 1 1 (i6 (-1))] [(1,pt z),(7,.agg (Am.arr (Af (win (c.AX.xs.length:Int) 1 4) 402 ⟨-1, -1⟩)))] [0,1] ⟨Aw (hbc 4 _ rfl),Aw (hL.1 0 _ rfl),Aw (hL.1 1 _ rfl),Ae⟩ ⟨fun w1 hw1=>BV w1 (c.AX.xs.length:Int) 1 4,fun w2 hw2=>Bh w2 (hL.ext (hw2.ext rfl)) (win (c.AX.xs.length:Int) 1 4) 402 (-1) (-1),Ae⟩ (fun n3 hn4 => ?_)
 replace hn4:z+1≤n3:=hn4
 refine Bl 6 ?_
 refine BA (an 3 1) [1] [Qb z,Qb z,Qb z] [(1,pt z)] ⟨w,n3,[(Ak w),(qis8_0 z c)]⟩ [] ⟨rfl,rfl,rfl,Ae⟩ (.inl rfl) ?_
 refine DU 7 [0,1] [(Ak w),(qis8_0 z c)] rfl rfl ?_
 refine CO ?_
 refine BK [1] [(1,pt z)] ?_
 refine GG <| Ku <| Az [.at 1,.at 1,.at 1] [Qb z,Qb z,Qb z] (.agg #[i6 ((Af (win (c.AX.xs.length:Int) 1 4) 402 ⟨-1, -1⟩).e),i6 ((Af (win (c.AX.xs.length:Int) 1 4) 402 ⟨-1, -1⟩).Ag.First),i6 ((Af (win (c.AX.xs.length:Int) 1 4) 402 ⟨-1, -1⟩).Ag.Second)]) ⟨rfl,rfl,rfl,Ae⟩ ?_
 intro w5 hw5
 exact⟨congrArg (fun t=>Ending.returned (Value.agg (Am.arr t))) (show(Af (win (c.AX.xs.length:Int) 1 4) 402 ⟨-1, -1⟩)=Gg c from by unfold Gg;first | rfl | rw[decide_eq_false (by omega)] | rw[decide_eq_true (by omega)]),AA hw5⟩
section
variable (z:Nat)(c:Ai)
abbrev qimu_0:Ch:= .blk z (.cells (Am.arr (Af (win (c.Aa.xs.length:Int) 1 8) 403 ⟨-1, -1⟩)) 111 (0,0)) true
end
theorem q4_calls(w:World)(hL:Jm w)(c:Ai)(hc:Ai.ok Any w c)(bc:Nat)(hbc:∀ (k:Nat) (v:Value),(Ai.cells c)[k]? = some v→w.cell? ⟨bc,0+k,none⟩=some v):Calls Tryd.prog 66 #[.pointer (some ⟨bc,0,none⟩)] w fun e w'=>e = .returned (.agg (Am.arr (Gi c)))∧CE (fun _=>False) w w':=by
 obtain⟨z,hz⟩:∃ z,z=w.heap.size:=⟨_,rfl⟩
 refine Cb (args:=[pt bc]) 8 ⟨w,z,[(Ak w)]⟩ Tryd.func66 rfl (by kernel_rfl) (by kernel_rfl) (Em hz) ?_
 have hpl:=hc.Aa.1.len;have hpc:=hc.AX.1.len;have hpch:=hc.Aj.1.len
 refine DI [0] [(0,pt bc)] ?_
 refine q_c 5 0 [] [[o0]] [] [(0,pt bc),(1,pt z)] ⟨w,z+1,[(Ak w),(bk z #[i6 0,i6 0,i6 0] 111)]⟩ rfl Ae ?_
 refine DX 6 [0,1] [(Ak w),(bk z #[i6 0,i6 0,i6 0] 111)] rfl rfl ?_
 refine KZ [.tk 0 o0,.tk 1 (oa [.via 0 (.slice c.Aa.a c.Aa.xs.length c.Aa.cap)]),.tk 2 o0,.tk 4 (oa [.via 0 (i6 (-1)),.via 0 (i6 (-1))]),.cl 3 (.bool (win (c.Aa.xs.length:Int) 1 8)),.cl 5 (.agg (Am.arr (Af (win (c.Aa.xs.length:Int) 1 8) 403 ⟨-1, -1⟩)))] [1,7] [(63,#[(Ac c.Aa.xs.length),i6 1,i6 8],.bool (win (c.Aa.xs.length:Int) 1 8)),(62,#[.bool (win (c.Aa.xs.length:Int) 1 8),i6 403,.agg #[i6 (-1),i6 (-1)]],.agg (Am.arr (Af (win (c.Aa.xs.length:Int) 1 8) 403 ⟨-1, -1⟩)))] (D7 6 1) [Old w bc 5 (.slice c.Aa.a c.Aa.xs.length c.Aa.cap),Old w 1 0 (i6 (-1)),Old w 1 1 (i6 (-1))] [(1,pt z),(7,.agg (Am.arr (Af (win (c.Aa.xs.length:Int) 1 8) 403 ⟨-1, -1⟩)))] [0,1] ⟨Aw (hbc 5 _ rfl),Aw (hL.1 0 _ rfl),Aw (hL.1 1 _ rfl),Ae⟩ ⟨fun w1 hw1=>BV w1 (c.Aa.xs.length:Int) 1 8,fun w2 hw2=>Bh w2 (hL.ext (hw2.ext rfl)) (win (c.Aa.xs.length:Int) 1 8) 403 (-1) (-1),Ae⟩ (fun n3 hn4 => ?_)
 replace hn4:z+1≤n3:=hn4
 refine Bl 6 ?_
 refine BA (an 3 1) [1] [Qb z,Qb z,Qb z] [(1,pt z)] ⟨w,n3,[(Ak w),(qimu_0 z c)]⟩ [] ⟨rfl,rfl,rfl,Ae⟩ (.inl rfl) ?_
 refine DU 7 [0,1] [(Ak w),(qimu_0 z c)] rfl rfl ?_
 refine CO ?_
 refine BK [1] [(1,pt z)] ?_
 refine GG <| Ku <| Az [.at 1,.at 1,.at 1] [Qb z,Qb z,Qb z] (.agg #[i6 ((Af (win (c.Aa.xs.length:Int) 1 8) 403 ⟨-1, -1⟩).e),i6 ((Af (win (c.Aa.xs.length:Int) 1 8) 403 ⟨-1, -1⟩).Ag.First),i6 ((Af (win (c.Aa.xs.length:Int) 1 8) 403 ⟨-1, -1⟩).Ag.Second)]) ⟨rfl,rfl,rfl,Ae⟩ ?_
 intro w5 hw5
 exact⟨congrArg (fun t=>Ending.returned (Value.agg (Am.arr t))) (show(Af (win (c.Aa.xs.length:Int) 1 8) 403 ⟨-1, -1⟩)=Gi c from by unfold Gi;first | rfl | rw[decide_eq_false (by omega)] | rw[decide_eq_true (by omega)]),AA hw5⟩
theorem q5_calls(w:World)(hL:Jm w)(c:Ai)(hc:Ai.ok Any w c)(bc:Nat)(hbc:∀ (k:Nat) (v:Value),(Ai.cells c)[k]? = some v→w.cell? ⟨bc,0+k,none⟩=some v):Calls Tryd.prog 67 #[.pointer (some ⟨bc,0,none⟩)] w fun e w'=>e = .returned (.agg (Am.arr (FH c)))∧CE (fun _=>False) w w':=by
 obtain⟨z,hz⟩:∃ z,z=w.heap.size:=⟨_,rfl⟩
 refine Cb (args:=[pt bc]) 8 ⟨w,z,[(Ak w)]⟩ Tryd.func67 rfl (by kernel_rfl) (by kernel_rfl) (Em hz) ?_
 have hpl:=hc.Aa.1.len;have hpc:=hc.AX.1.len;have hpch:=hc.Aj.1.len
 refine DI [0] [(0,pt bc)] ?_
 refine q_c 5 0 [] [[o0]] [] [(0,pt bc),(1,pt z)] ⟨w,z+1,[(Ak w),(bk z #[i6 0,i6 0,i6 0] 111)]⟩ rfl Ae ?_
 by_cases h1:(16:Int)<(c.Aj.xs.length:Int)
 ·refine Au 1 5 [] [[o0,(oa [.via 0 (.slice c.Aj.a c.Aj.xs.length c.Aj.cap)]),o0,oF,(oa [.via 0 (i6 (-1)),.via 0 (i6 (-1))])]] [Old w bc 6 (.slice c.Aj.a c.Aj.xs.length c.Aj.cap),BF ((c.Aj.xs.length:Int)≤16),Old w 1 0 (i6 (-1)),Old w 1 1 (i6 (-1))] [(1,pt z),(5,.bool false),(6,.agg #[i6 (-1),i6 (-1)])] rfl ⟨Aw (hbc 6 _ rfl),bf,Aw (hL.1 0 _ rfl),Aw (hL.1 1 _ rfl),Ae⟩ ?_
  refine AY 62 #[.bool false,i6 404,.agg #[i6 (-1),i6 (-1)]] (some 7) (.agg (Am.arr (Af false 404 ⟨-1, -1⟩))) (fun w2 hw2=>Bh w2 (hL.ext (hw2.ext rfl)) false 404 (-1) (-1)) (fun n3 (hn4:z+1≤n3) => ?_)
  refine F8 3 0 [] [[(an 3 1)]] [Qb z,Qb z,Qb z] [(1,pt z)] ⟨w,n3,[(Ak w),(bk z (Am.arr (Af false 404 ⟨-1, -1⟩)) 111)]⟩ rfl ⟨rfl,rfl,rfl,Ae⟩ ?_
  refine Az [.at 1,.at 1,.at 1] [Qb z,Qb z,Qb z] (.agg #[i6 ((Af false 404 ⟨-1, -1⟩).e),i6 ((Af false 404 ⟨-1, -1⟩).Ag.First),i6 ((Af false 404 ⟨-1, -1⟩).Ag.Second)]) ⟨rfl,rfl,rfl,Ae⟩ ?_
  intro w5 hw5
  exact⟨congrArg (fun t=>Ending.returned (Value.agg (Am.arr t))) (show(Af false 404 ⟨-1, -1⟩)=FH c from by unfold FH;first | rfl | rw[decide_eq_false (by omega)] | rw[decide_eq_true (by omega)]),AA hw5⟩
 refine Au 1 5 [] [[o0,(oa [.via 0 (.slice c.Aj.a c.Aj.xs.length c.Aj.cap)]),o0,oT,(oa [.via 0 (i6 (-1)),.via 0 (i6 (-1))])]] [Old w bc 6 (.slice c.Aj.a c.Aj.xs.length c.Aj.cap),BT ((c.Aj.xs.length:Int)≤16),Old w 1 0 (i6 (-1)),Old w 1 1 (i6 (-1))] [(1,pt z),(5,.bool true),(6,.agg #[i6 (-1),i6 (-1)])] rfl ⟨Aw (hbc 6 _ rfl),bt,Aw (hL.1 0 _ rfl),Aw (hL.1 1 _ rfl),Ae⟩ ?_
 refine AY 62 #[.bool true,i6 404,.agg #[i6 (-1),i6 (-1)]] (some 7) (.agg (Am.arr (Af true 404 ⟨-1, -1⟩))) (fun w6 hw6=>Bh w6 (hL.ext (hw6.ext rfl)) true 404 (-1) (-1)) (fun n7 (hn8:z+1≤n7) => ?_)
 refine F8 3 0 [] [[(an 3 1)]] [Qb z,Qb z,Qb z] [(1,pt z)] ⟨w,n7,[(Ak w),(bk z (Am.arr (Af true 404 ⟨-1, -1⟩)) 111)]⟩ rfl ⟨rfl,rfl,rfl,Ae⟩ ?_
 refine Az [.at 1,.at 1,.at 1] [Qb z,Qb z,Qb z] (.agg #[i6 ((Af true 404 ⟨-1, -1⟩).e),i6 ((Af true 404 ⟨-1, -1⟩).Ag.First),i6 ((Af true 404 ⟨-1, -1⟩).Ag.Second)]) ⟨rfl,rfl,rfl,Ae⟩ ?_
 intro w9 hw9
 exact⟨congrArg (fun t=>Ending.returned (Value.agg (Am.arr t))) (show(Af true 404 ⟨-1, -1⟩)=FH c from by unfold FH;first | rfl | rw[decide_eq_false (by omega)] | rw[decide_eq_true (by omega)]),AA hw9⟩
theorem q6_calls(w:World)(hL:Jm w)(c:Ai)(hc:Ai.ok Any w c)(bc:Nat)(hbc:∀ (k:Nat) (v:Value),(Ai.cells c)[k]? = some v→w.cell? ⟨bc,0+k,none⟩=some v)(b p:Nat)(hb:∀ (k:Nat) (v:Value),[Value.int .i64 (p:Nat)][k]? = some v→w.cell? ⟨b,0+k,none⟩=some v)(hp:p<c.Aa.xs.length)(hFr:1≤c.Frames∧c.Frames≤1024)(hpf:∀ q,q<p→CP c q=AQ):Calls Tryd.prog 68 #[.pointer (some ⟨bc,0,none⟩),.pointer (some ⟨b,0,none⟩)] w fun e w'=>e = .returned (.agg (Am.arr (CP c p)))∧CE (fun _=>False) w w':=by
 obtain⟨z,hz⟩:∃ z,z=w.heap.size:=⟨_,rfl⟩
 refine Cb (args:=[pt bc,pt b]) 6 ⟨w,z,[(Ak w)]⟩ Tryd.func68 rfl (by kernel_rfl) (by kernel_rfl) (Em hz) ?_
 have hpl:=hc.Aa.1.len;have hpc:=hc.AX.1.len;have hpch:=hc.Aj.1.len
 refine DI [0,1] [(0,pt bc),(1,pt b)] ?_
 refine q_c 6 2 [] [[o0],[(ol 0 (Ai.arr c)),(oa [.via 0 (Ac p)])]] [GU w bc 0 (Ai.arr c),Old w b 0 (Ac p)] [(2,pt z),(3,.agg (Ai.arr c)),(4,Ac p)] ⟨w,z+1,[(Ak w),(bk z #[i6 0,i6 0,i6 0] 111)]⟩ rfl ⟨Ei hbc,Aw (hb 0 _ rfl),Ae⟩ ?_
 refine AY 69 #[.agg (Ai.arr c),Ac p] (some 5) (.agg (Am.arr (CP c p))) (fun w1 hw1=>QK w1 (hL.ext (hw1.ext rfl)) c (hc.ext (hw1.ext rfl) (fun _ h=>h)) p hp hFr hpf) (fun n2 (hn3:z+1≤n2) => ?_)
 refine F8 3 0 [] [[(an 3 1)]] [Qb z,Qb z,Qb z] [(2,pt z)] ⟨w,n2,[(Ak w),(bk z (Am.arr (CP c p)) 111)]⟩ rfl ⟨rfl,rfl,rfl,Ae⟩ ?_
 refine Az [.at 1,.at 1,.at 1] [Qb z,Qb z,Qb z] (.agg #[i6 ((CP c p).e),i6 ((CP c p).Ag.First),i6 ((CP c p).Ag.Second)]) ⟨rfl,rfl,rfl,Ae⟩ ?_
 intro w4 hw4
 exact⟨rfl,AA hw4⟩
theorem q7_calls(w:World)(hL:Jm w)(c:Ai)(hc:Ai.ok Any w c)(bc:Nat)(hbc:∀ (k:Nat) (v:Value),(Ai.cells c)[k]? = some v→w.cell? ⟨bc,0+k,none⟩=some v)(b p:Nat)(hb:∀ (k:Nat) (v:Value),[Value.int .i64 (p:Nat)][k]? = some v→w.cell? ⟨b,0+k,none⟩=some v)(hp:p<c.Aj.xs.length)(hm:c.Aa.xs.length≤1024)(hq:∀ p,p<c.Aa.xs.length→(gd c.Aa.xs p).Ap.xs.length≤1024):Calls Tryd.prog 70 #[.pointer (some ⟨bc,0,none⟩),.pointer (some ⟨b,0,none⟩)] w fun e w'=>e = .returned (.agg (Am.arr (Dl c p)))∧CE (fun _=>False) w w':=by
 obtain⟨z,hz⟩:∃ z,z=w.heap.size:=⟨_,rfl⟩
 refine Cb (args:=[pt bc,pt b]) 6 ⟨w,z,[(Ak w)]⟩ Tryd.func70 rfl (by kernel_rfl) (by kernel_rfl) (Em hz) ?_
 have hpl:=hc.Aa.1.len;have hpc:=hc.AX.1.len;have hpch:=hc.Aj.1.len
 refine DI [0,1] [(0,pt bc),(1,pt b)] ?_
 refine q_c 6 2 [] [[o0],[(ol 0 (Ai.arr c)),(oa [.via 0 (Ac p)])]] [GU w bc 0 (Ai.arr c),Old w b 0 (Ac p)] [(2,pt z),(3,.agg (Ai.arr c)),(4,Ac p)] ⟨w,z+1,[(Ak w),(bk z #[i6 0,i6 0,i6 0] 111)]⟩ rfl ⟨Ei hbc,Aw (hb 0 _ rfl),Ae⟩ ?_
 refine AY 71 #[.agg (Ai.arr c),Ac p] (some 5) (.agg (Am.arr (Dl c p))) (fun w1 hw1=>channel_calls w1 (hL.ext (hw1.ext rfl)) c (hc.ext (hw1.ext rfl) (fun _ h=>h)) p hp hm hq) (fun n2 (hn3:z+1≤n2) => ?_)
 refine F8 3 0 [] [[(an 3 1)]] [Qb z,Qb z,Qb z] [(2,pt z)] ⟨w,n2,[(Ak w),(bk z (Am.arr (Dl c p)) 111)]⟩ rfl ⟨rfl,rfl,rfl,Ae⟩ ?_
 refine Az [.at 1,.at 1,.at 1] [Qb z,Qb z,Qb z] (.agg #[i6 ((Dl c p).e),i6 ((Dl c p).Ag.First),i6 ((Dl c p).Ag.Second)]) ⟨rfl,rfl,rfl,Ae⟩ ?_
 intro w4 hw4
 exact⟨rfl,AA hw4⟩
theorem q8_calls(w:World)(hL:Jm w)(c:Ai)(hc:Ai.ok Any w c)(bc:Nat)(hbc:∀ (k:Nat) (v:Value),(Ai.cells c)[k]? = some v→w.cell? ⟨bc,0+k,none⟩=some v)(b p:Nat)(hb:∀ (k:Nat) (v:Value),[Value.int .i64 (p:Nat)][k]? = some v→w.cell? ⟨b,0+k,none⟩=some v)(hp:p<c.AX.xs.length)  : Calls Tryd.prog 72 #[.pointer (some ⟨bc,0,none⟩),.pointer (some ⟨b,0,none⟩)] w fun e w'=>e = .returned (.agg (Am.arr (DY c p)))∧CE (fun _=>False) w w':=by
 obtain⟨z,hz⟩:∃ z,z=w.heap.size:=⟨_,rfl⟩
 refine Cb (args:=[pt bc,pt b]) 6 ⟨w,z,[(Ak w)]⟩ Tryd.func72 rfl (by kernel_rfl) (by kernel_rfl) (Em hz) ?_
 have hpl:=hc.Aa.1.len;have hpc:=hc.AX.1.len;have hpch:=hc.Aj.1.len
 refine DI [0,1] [(0,pt bc),(1,pt b)] ?_
 refine q_c 6 2 [] [[o0],[(ol 0 (Ai.arr c)),(oa [.via 0 (Ac p)])]] [GU w bc 0 (Ai.arr c),Old w b 0 (Ac p)] [(2,pt z),(3,.agg (Ai.arr c)),(4,Ac p)] ⟨w,z+1,[(Ak w),(bk z #[i6 0,i6 0,i6 0] 111)]⟩ rfl ⟨Ei hbc,Aw (hb 0 _ rfl),Ae⟩ ?_
 refine AY 73 #[.agg (Ai.arr c),Ac p] (some 5) (.agg (Am.arr (DY c p))) (fun w1 hw1=>core_calls w1 (hL.ext (hw1.ext rfl)) c (hc.ext (hw1.ext rfl) (fun _ h=>h)) p hp) (fun n2 (hn3:z+1≤n2) => ?_)
 refine F8 3 0 [] [[(an 3 1)]] [Qb z,Qb z,Qb z] [(2,pt z)] ⟨w,n2,[(Ak w),(bk z (Am.arr (DY c p)) 111)]⟩ rfl ⟨rfl,rfl,rfl,Ae⟩ ?_
 refine Az [.at 1,.at 1,.at 1] [Qb z,Qb z,Qb z] (.agg #[i6 ((DY c p).e),i6 ((DY c p).Ag.First),i6 ((DY c p).Ag.Second)]) ⟨rfl,rfl,rfl,Ae⟩ ?_
 intro w4 hw4
 exact⟨rfl,AA hw4⟩
theorem q9_calls(w:World)(hL:Jm w)(c:Ai)(hc:Ai.ok Any w c)(bc:Nat)(hbc:∀ (k:Nat) (v:Value),(Ai.cells c)[k]? = some v→w.cell? ⟨bc,0+k,none⟩=some v)(hFr:1≤c.Frames∧c.Frames≤1024)(hpf:∀ q,q<c.Aa.xs.length→CP c q=AQ):Calls Tryd.prog 74 #[.pointer (some ⟨bc,0,none⟩)] w fun e w'=>e = .returned (.agg (Am.arr (Ir c)))∧CE (fun _=>False) w w':=by
 obtain⟨z,hz⟩:∃ z,z=w.heap.size:=⟨_,rfl⟩
 refine Cb (args:=[pt bc]) 6 ⟨w,z,[(Ak w)]⟩ Tryd.func74 rfl (by kernel_rfl) (by kernel_rfl) (Em hz) ?_
 have hpl:=hc.Aa.1.len;have hpc:=hc.AX.1.len;have hpch:=hc.Aj.1.len
 refine DI [0] [(0,pt bc)] ?_
 refine q_c 5 0 [] [[o0]] [] [(0,pt bc),(1,pt z)] ⟨w,z+1,[(Ak w),(bk z #[i6 0,i6 0,i6 0] 111)]⟩ rfl Ae ?_
 refine DX 4 [0,1] [(Ak w),(bk z #[i6 0,i6 0,i6 0] 111)] rfl rfl ?_
 refine KZ [.tk 0 (ol 0 (Ai.arr c)),.tk 2 (oa [.via 0 (i6 (-1)),.via 0 (i6 (-1))]),.cl 1 (.bool (F9 c)),.cl 3 (.agg (Am.arr (Af (F9 c) 423 ⟨-1, -1⟩)))] [1,5] [(75,#[.agg (Ai.arr c)],.bool (F9 c)),(62,#[.bool (F9 c),i6 423,.agg #[i6 (-1),i6 (-1)]],.agg (Am.arr (Af (F9 c) 423 ⟨-1, -1⟩)))] (D7 4 1) [GU w bc 0 (Ai.arr c),Old w 1 0 (i6 (-1)),Old w 1 1 (i6 (-1))] [(1,pt z),(5,.agg (Am.arr (Af (F9 c) 423 ⟨-1, -1⟩)))] [0,1] ⟨Ei hbc,Aw (hL.1 0 _ rfl),Aw (hL.1 1 _ rfl),Ae⟩ ⟨fun w1 hw1=>kernel_calls w1 (hL.ext (hw1.ext rfl)) c (hc.ext (hw1.ext rfl) (fun _ h=>h)) hFr hpf,fun w2 hw2=>Bh w2 (hL.ext (hw2.ext rfl)) (F9 c) 423 (-1) (-1),Ae⟩ (fun n3 hn4 => ?_)
 replace hn4:z+1≤n3:=hn4
 refine Bl 4 ?_
 refine BA (an 3 1) [1] [Qb z,Qb z,Qb z] [(1,pt z)] ⟨w,n3,[(Ak w),(.blk z (.cells (Am.arr (Af (F9 c) 423 ⟨-1, -1⟩)) 111 (0,0)) true)]⟩ [] ⟨rfl,rfl,rfl,Ae⟩ (.inl rfl) ?_
 refine DU 5 [0,1] [(Ak w),(.blk z (.cells (Am.arr (Af (F9 c) 423 ⟨-1, -1⟩)) 111 (0,0)) true)] rfl rfl ?_
 refine CO ?_
 refine BK [1] [(1,pt z)] ?_
 refine GG <| Ku <| Az [.at 1,.at 1,.at 1] [Qb z,Qb z,Qb z] (.agg #[i6 ((Af (F9 c) 423 ⟨-1, -1⟩).e),i6 ((Af (F9 c) 423 ⟨-1, -1⟩).Ag.First),i6 ((Af (F9 c) 423 ⟨-1, -1⟩).Ag.Second)]) ⟨rfl,rfl,rfl,Ae⟩ ?_
 intro w5 hw5
 exact⟨congrArg (fun t=>Ending.returned (Value.agg (Am.arr t))) (show(Af (F9 c) 423 ⟨-1, -1⟩)=Ir c from by unfold Ir;first | rfl | rw[decide_eq_false (by omega)] | rw[decide_eq_true (by omega)]),AA hw5⟩
abbrev fn1(f bc:Nat):Value:= .func (.func f) #[] #[.pointer (some ⟨bc,0,none⟩)]
abbrev fn2(f bc b:Nat):Value:= .func (.func f) #[] #[.pointer (some ⟨bc,0,none⟩),.pointer (some ⟨b,0,none⟩)]
def GY(bc:Nat):List Value:=[fn1 61 bc,fn1 64 bc,fn1 65 bc,fn1 66 bc,fn1 67 bc]
def clo(f bc:Nat)(B:List Nat):List Value:=B.map fun b=>fn2 f bc b
theorem Yf{f bc b:Nat}{B:List Nat}:clo f bc (B++[b])=clo f bc B++[.func (.func f) #[] #[.pointer (some ⟨bc,0,none⟩),.pointer (some ⟨b,0,none⟩)]]:=List.map_append
theorem KE{f bc:Nat}{B:List Nat}:(clo f bc B).length=B.length:=List.length_map _
def asks(bc:Nat)(B1 B2 B3:List Nat):List Value:=GY bc++clo 68 bc B1++clo 70 bc B2++clo 72 bc B3++[.func (.func 74) #[] #[.pointer (some ⟨bc,0,none⟩)]]
def answers(c:Ai):List Am:=[Gm c,whole2 c,Gg c,Gi c,FH c]++(List.range c.Aa.xs.length).map (CP c)++(List.range c.Aj.xs.length).map (Dl c)++(List.range c.AX.xs.length).map (DY c)++[Ir c]
def EI(c:Ai):Am:=AV (answers c)
theorem asks_len{bc:Nat}{B1 B2 B3:List Nat}:(asks bc B1 B2 B3).length=6+B1.length+B2.length+B3.length:=by
 simp[asks,GY,clo];omega
theorem GL{c:Ai}:(answers c).length=6+c.Aa.xs.length+c.Aj.xs.length+c.AX.xs.length:=by
 simp[answers];omega
theorem NV{α:Type}[Inhabited α]{a b:List α}{k:Nat}(h:k<a.length):gd (a++b) k=gd a k:=by
 rw[Gv (by rw[List.length_append];omega),Gv h,List.getElem_append_left h]
theorem W9{α:Type}[Inhabited α]{a b:List α}{k n:Nat}(h:n=a.length+k)(hk:k<b.length):gd (a++b) n=gd b k:=by
 subst h
 rw[Gv (by rw[List.length_append];omega),Gv hk,List.getElem_append_right (by omega)]
 congr 1;omega
theorem ZY{β:Type}[Inhabited β]{f:Nat→β}{n i:Nat}(h:i<n):gd ((List.range n).map f) i=f i:=by
 rw[Gv (by simpa using h)];simp
theorem gd_clo{f bc b:Nat}{B:List Nat}{i:Nat}(h:B[i]? = some b):gd (clo f bc B) i=fn2 f bc b:=by
 obtain⟨hi,e⟩:=List.getElem?_eq_some_iff.1 h
 rw[Gv (by rw[KE];exact hi)]
 simp[clo,e]
section
variable {c:Ai}{bc:Nat}{B1 B2 B3:List Nat}
theorem ask_lo{k:Nat}(hk:k<5):gd (asks bc B1 B2 B3) k=gd (GY bc) k:=by
 unfold asks
 have h5:(GY bc).length=5:=rfl
 rw[NV (by simp only[List.length_append];omega),NV (by simp only[List.length_append];omega),NV (by simp only[List.length_append];omega),NV (by omega)]
theorem Vl{k:Nat}(hk:k<5):gd (answers c) k=gd [Gm c,whole2 c,Gg c,Gi c,FH c] k:=by
 unfold answers
 rw[NV (by simp;omega),NV (by simp;omega),NV (by simp;omega),NV (by simpa using hk)]
theorem VL{p:Nat}(hp:p<c.Aa.xs.length):gd (answers c) (5+p)=CP c p:=by
 unfold answers
 rw[NV (by simp;omega),NV (by simp;omega),NV (by simp;omega),W9 (k:=p) (by simp) (by simpa using hp),ZY hp]
theorem YF{p:Nat}(hp:p<c.Aj.xs.length):gd (answers c) (5+c.Aa.xs.length+p)=Dl c p:=by
 unfold answers
 rw[NV (by simp;omega),NV (by simp;omega),W9 (k:=p) (by simp;omega) (by simpa using hp),ZY hp]
theorem YM{p:Nat}(hp:p<c.AX.xs.length):gd (answers c) (5+c.Aa.xs.length+c.Aj.xs.length+p)=DY c p:=by
 unfold answers
 rw[NV (by simp;omega),W9 (k:=p) (by simp;omega) (by simpa using hp),ZY hp]
theorem YW:gd (answers c) (5+c.Aa.xs.length+c.Aj.xs.length+c.AX.xs.length)=Ir c:=by
 unfold answers
 rw[W9 (k:=0) (by simp;omega) (by simp)];rfl
theorem kinds(h1:B1.length=c.Aa.xs.length)(h2:B2.length=c.Aj.xs.length)(h3:B3.length=c.AX.xs.length){k:Nat}(hk:k<(asks bc B1 B2 B3).length) :
   (k=0∧gd (asks bc B1 B2 B3) k = .func (.func 61) #[] #[.pointer (some ⟨bc,0,none⟩)]∧gd (answers c) k=Gm c)∨(k=1∧gd (asks bc B1 B2 B3) k = .func (.func 64) #[] #[.pointer (some ⟨bc,0,none⟩)]∧gd (answers c) k=whole2 c)∨(k=2∧gd (asks bc B1 B2 B3) k = .func (.func 65) #[] #[.pointer (some ⟨bc,0,none⟩)]∧gd (answers c) k=Gg c) ∨
   (k=3∧gd (asks bc B1 B2 B3) k = .func (.func 66) #[] #[.pointer (some ⟨bc,0,none⟩)]∧gd (answers c) k=Gi c)∨(k=4∧gd (asks bc B1 B2 B3) k = .func (.func 67) #[] #[.pointer (some ⟨bc,0,none⟩)]∧gd (answers c) k=FH c) ∨
   (∃ p b,k=5+p∧p<c.Aa.xs.length∧B1[p]? = some b∧gd (asks bc B1 B2 B3) k = .func (.func 68) #[] #[.pointer (some ⟨bc,0,none⟩),.pointer (some ⟨b,0,none⟩)]∧gd (answers c) k=CP c p) ∨
   (∃ p b,k=5+c.Aa.xs.length+p∧p<c.Aj.xs.length∧B2[p]? = some b∧gd (asks bc B1 B2 B3) k = .func (.func 70) #[] #[.pointer (some ⟨bc,0,none⟩),.pointer (some ⟨b,0,none⟩)]∧gd (answers c) k=Dl c p) ∨
   (∃ p b,k=5+c.Aa.xs.length+c.Aj.xs.length+p∧p<c.AX.xs.length∧B3[p]? = some b∧gd (asks bc B1 B2 B3) k = .func (.func 72) #[] #[.pointer (some ⟨bc,0,none⟩),.pointer (some ⟨b,0,none⟩)]∧gd (answers c) k=DY c p) ∨
   (k=5+c.Aa.xs.length+c.Aj.xs.length+c.AX.xs.length∧gd (asks bc B1 B2 B3) k = .func (.func 74) #[] #[.pointer (some ⟨bc,0,none⟩)]∧gd (answers c) k=Ir c):=by
 rw[asks_len]at hk
 have l5:(GY bc).length=5:=rfl
 have hB:∀ (B:List Nat) (i:Nat),i<B.length→∃ b,B[i]? = some b:=fun B i hi=>⟨B[i],by simp[hi]⟩
 rcases Nat.lt_or_ge k 5 with g | g
 · rw[ask_lo g,Vl g]
   rcases(by omega:k=0∨k=1∨k=2∨k=3∨k=4)with rfl | rfl | rfl | rfl | rfl
   · exact .inl ⟨rfl,rfl,rfl⟩
   · exact .inr (.inl ⟨rfl,rfl,rfl⟩)
   · exact .inr (.inr (.inl ⟨rfl,rfl,rfl⟩))
   · exact .inr (.inr (.inr (.inl ⟨rfl,rfl,rfl⟩)))
   · exact .inr (.inr (.inr (.inr (.inl ⟨rfl,rfl,rfl⟩))))
 refine .inr (.inr (.inr (.inr (.inr ?_))))
 rcases Nat.lt_or_ge k (5+c.Aa.xs.length)with g1 | g1
 · obtain⟨p,rfl⟩:∃ p,k=5+p:=⟨k - 5,by omega⟩
   obtain⟨b,hb⟩:=hB B1 p (by omega)
   refine .inl ⟨p,b,rfl,by omega,hb, ?_,VL (by omega)⟩
   unfold asks
   rw[NV (by simp only[List.length_append,KE];omega),NV (by simp only[List.length_append,KE];omega),NV (by simp only[List.length_append,KE];omega),W9 (k:=p) (by omega) (by rw[KE];omega),gd_clo hb]
 rcases Nat.lt_or_ge k (5+c.Aa.xs.length+c.Aj.xs.length)with g2 | g2
 · obtain⟨p,rfl⟩:∃ p,k=5+c.Aa.xs.length+p:=⟨k - (5+c.Aa.xs.length),by omega⟩
   obtain⟨b,hb⟩:=hB B2 p (by omega)
   refine .inr (.inl ⟨p,b,rfl,by omega,hb, ?_,YF (by omega)⟩)
   unfold asks
   rw[NV (by simp only[List.length_append,KE];omega),NV (by simp only[List.length_append,KE];omega),W9 (k:=p) (by simp only[List.length_append,KE];omega) (by rw[KE];omega),gd_clo hb]
 rcases Nat.lt_or_ge k (5+c.Aa.xs.length+c.Aj.xs.length+c.AX.xs.length)with g3 | g3
 · obtain⟨p,rfl⟩:∃ p,k=5+c.Aa.xs.length+c.Aj.xs.length+p:=⟨k - (5+c.Aa.xs.length+c.Aj.xs.length),by omega⟩
   obtain⟨b,hb⟩:=hB B3 p (by omega)
   refine .inr (.inr (.inl ⟨p,b,rfl,by omega,hb, ?_,YM (by omega)⟩))
   unfold asks
   rw[NV (by simp only[List.length_append,KE];omega),W9 (k:=p) (by simp only[List.length_append,KE];omega) (by rw[KE];omega),gd_clo hb]
 · obtain rfl:k=5+c.Aa.xs.length+c.Aj.xs.length+c.AX.xs.length:=by omega
   refine .inr (.inr (.inr ⟨rfl, ?_,YW⟩))
   unfold asks
   rw[W9 (k:=0) (by simp only[List.length_append,KE];omega) (by simp)];rfl
variable {n:Nat}(hf:∀ i,i<n→gd (answers c) i=AQ)
theorem Wu(hf:∀ i,i<n→gd (answers c) i=AQ)(hn:1≤n):1≤c.Frames∧c.Frames≤1024:=by
 have h:=hf 0 (by omega)
 rw[Vl (by decide)]at h
 exact DD ((Ic (by decide)).1 (show Af (win c.Frames 1 1024) 400 ⟨-1, -1⟩=AQ from h))
theorem parts_of(hf:∀ i,i<n→gd (answers c) i=AQ)(hn:4≤n):c.Aa.xs.length≤1024:=by
 have h:=hf 3 (by omega)
 rw[Vl (by decide)]at h
 have:=DD ((Ic (by decide)).1 (show Af (win (c.Aa.xs.length:Int) 1 8) 403 ⟨-1, -1⟩=AQ from h))
 omega
theorem Zag(hf:∀ i,i<n→gd (answers c) i=AQ){q:Nat}(hq:q<c.Aa.xs.length)(hn:5+q<n):CP c q=AQ:=by
 rw[←VL hq];exact hf _ hn
theorem Zv{c:Ai}{p:Nat}(h:CP c p=AQ):Fz (AV (HY c p)) (J5 c p) (Ey c p).Ap.xs.length=AQ:=by
 unfold CP at h
 rw[if_pos (Ot (by unfold CP;exact h))]at h
 exact h
theorem ports_of(hf:∀ i,i<n→gd (answers c) i=AQ)(hn:5+c.Aa.xs.length≤n):∀ p,p<c.Aa.xs.length→(gd c.Aa.xs p).Ap.xs.length≤1024:=by
 intro p hp
 have h:=(Nz (Zv (Zag hf hp (by omega)))).1
 have h2:=Nb h _ (List.mem_cons_of_mem _ (List.mem_cons_self ..))
 rw[Ic (by decide)]at h2
 have:=of_decide_eq_true h2
 simp only[Ey]at this
 omega
end
end Go.Proofs.YtjdmhijaanmccaaDoor.Ad
namespace Go.Proofs.YtjdmhijaanmccaaDoor.Eng
open Go Go.Proofs.YtjdmhijaanmccaaDoor.Mem
set_option linter.unusedSimpArgs false
set_option linter.unusedVariables false
def caps(t:TypeId)(B:List Nat):Ch:= .inv (fun b=>b∈B) (fun w=>∀ (i b:Nat),B[i]? = some b→w.heap[b]? = some (.cells #[.int .i64 (i:Nat)] t (0,0))) true
theorem XY(t:TypeId)(B:List Nat):(caps t B).stable:=fun w w' h hw i b hb=>(h b (List.mem_of_getElem? hb)).trans (hw i b hb)
theorem VO{A:AW}{w:World}(h:Sat A w){i j b:Nat}{t:TypeId}{B:List Nat}(hb:B[j]? = some b)(hi:A.σ[i]? = some (caps t B):=by rfl):∀ (k:Nat) (v:Value),[Value.int .i64 (j:Nat)][k]? = some v→w.cell? ⟨b,0+k,none⟩=some v:=by
 have h1:w.heap[b]? = some (.cells #[.int .i64 (j:Nat)] t (0,0)):=h.at hi j b hb
 intro k v hk
 match k,hk with
 | 0,hk=>cases hk;simp[World.cell?,h1]
theorem Nh{A:AW}{w:World}(h:Sat A w){i b:Nat}{cs:Array Value}{t:TypeId}{fr:Nat×Nat}{rw':Bool}{l:List Value}(hi:A.σ[i]? = some (.blk b (.cells cs t fr) rw'):=by rfl)(hl:l=cs.toList:=by rfl):∀ (k:Nat) (v:Value),l[k]? = some v→w.cell? ⟨b,0+k,none⟩=some v:=by
 have h1:w.heap[b]? = some (.cells cs t fr):=h.at hi
 intro k v hk
 subst hl
 simp[World.cell?,h1]at hk ⊢
 exact hk
theorem Sat.caps{A:AW}{w:World}(h:Sat A w)(i j:Nat)(is:List Nat){t:TypeId}{B:List Nat}{b n:Nat}{kept:List Ch}(hn:B.length=n)(hi:A.σ[i]? = some (caps t B))(hj:A.σ[j]? = some (.blk b (.cells #[.int .i64 (n:Nat)] t (0,0)) true))(hnd:nodupB is=true)(hni:is.contains i=false)(hnj:is.contains j=false)(hp:picks is A.σ=some kept):Sat { A with σ:=kept++[Eng.caps t (B++[b])] } w:=by
 have:=h.exch is hnd hp (CE.refl (fun _=>False) w) (fun _ _ _ _ x=>x) [Eng.caps t (B++[b])] (by
  intro d hd
  simp only[List.mem_singleton]at hd
  subst hd
  refine⟨fun k b' hb => ?_,XY _ _, ?_⟩
  ·rcases Nat.lt_trichotomy k B.length with hk | hk | hk
   ·rw[List.getElem?_append_left hk]at hb
    exact h.at hi k b' hb
   ·subst hk
    rw[List.getElem?_append_right (Nat.le_refl _)]at hb
    simp at hb
    subst hb;subst hn
    exact h.at hj
   rw[List.getElem?_eq_none (by simp;omega)]at hb;cases hb
  ·intro b' hb'
   rw[h.size]
   rcases List.mem_append.1 hb' with hb' | hb'
   ·exact h.bnd _ (List.mem_of_getElem? hi) b' hb'
   exact h.bnd _ (List.mem_of_getElem? hj) b' (List.mem_singleton.1 hb')) (by simp) (by
  intro d hd d' hd' _ b' hb
  simp only[List.mem_singleton]at hd'
  subst hd'
  obtain⟨q,hq,hqs⟩:=ND hp d hd
  intro hb'
  rcases List.mem_append.1 hb' with hb' | hb'
  ·exact MO h.Oj (i:=i) (j:=q) (by rw[List.getElem?_map,hi];rfl) (by rw[List.getElem?_map,hqs];rfl) (fun e=>by subst e;simp[hq]at hni) rfl b' hb' hb
  exact MO h.Oj (i:=j) (j:=q) (by rw[List.getElem?_map,hj];rfl) (by rw[List.getElem?_map,hqs];rfl) (fun e=>by subst e;simp[hq]at hnj) rfl b' (List.mem_singleton.1 hb') hb)
 rw[h.size]at this
 exact this
section
variable {P:Program}{N:Nat}{env:Env}{ds:List Deferred}{A:AW}{s:List Kt}{Q:Exit→Act→World→Prop}{c:Code}{x:Exit}
theorem Zai(t:TypeId)(K:G P N env ds { A with σ:=A.σ++[caps t []] } c s Q):G P N env ds A c s Q :=
 fun a w hst=>K a w ⟨hst.sz,hst.df,hst.kn,hst.mem.more _ (fun i b h=>by simp at h) (XY _ _) (fun b h=>by cases h)⟩
theorem e_caps(i j:Nat)(is:List Nat)(t:TypeId)(B:List Nat)(b n:Nat)(kept:List Ch)(hn:B.length=n)(K:E P N env ds { A with σ:=kept++[caps t (B++[b])] } x s Q)
   (hi:A.σ[i]? = some (caps t B):=by rfl) (hj:A.σ[j]? = some (.blk b (.cells #[.int .i64 (n:Nat)] t (0,0)) true):=by rfl) (hnd:nodupB is=true:=by rfl) (hni:is.contains i=false:=by rfl) (hnj:is.contains j=false:=by rfl) (hp:picks is A.σ=some kept:=by rfl):E P N env ds A x s Q :=
 fun a' w hst=>K a' w ⟨hst.sz,hst.df,hst.kn,hst.mem.caps i j is hn hi hj hnd hni hnj hp⟩
end
end Go.Proofs.YtjdmhijaanmccaaDoor.Eng
namespace Go.Proofs.YtjdmhijaanmccaaDoor.Ad
open Go Go.Proofs.YtjdmhijaanmccaaDoor.Eng Go.Proofs.YtjdmhijaanmccaaDoor.Mem Go.Proofs.YtjdmhijaanmccaaDoor.Ly
set_option linter.unusedSimpArgs false
set_option linter.unusedVariables false
set_option maxRecDepth 100000
section
variable (n10 z:Nat)(n17 n3:Nat)(c:Ai)(p n75:Nat)(n83 n91:Nat)(n35 n43:Nat)(n51 n59:Nat)(n67 n99:Nat)(ax19:Option Addr)(B1 B2 B3:List Nat)(cp20:Nat)(ax12:Option Addr)(cp13:Nat)(ax5:Option Addr)(cp6:Nat)(aL3:Option Addr)(cL3:Nat)(aL2:Option Addr)(cL2:Nat)(aL1:Option Addr)(cL1 b31:Nat)(cR b39:Nat)(b47 b55:Nat)(b63 b71:Nat)(b79 b87:Nat)(b95 k:Nat)
abbrev Zc:=bk (n10+1) #[.func (.func 70) #[] #[pt (z+2),pt n10]] 109
abbrev qdvx_1:=bk (n17+1) #[.func (.func 72) #[] #[pt (z+2),pt n17]] 109
abbrev Zh:=bk (n3+1) #[.func (.func 68) #[] #[pt (z+2),pt n3]] 109
abbrev qdvx_3:=bk (z+1) #[i6 ((CP c p).Ag.First),i6 ((CP c p).Ag.Second)] 38
abbrev qdvx_4:=bk (z+1) #[i6 ((Dl c p).Ag.First),i6 ((Dl c p).Ag.Second)] 38
abbrev qdvx_5:=bk (z+1) #[i6 ((DY c p).Ag.First),i6 ((DY c p).Ag.Second)] 38
abbrev qdvx_6:=bk (z+1) #[i6 ((Gm c).Ag.First),i6 ((Gm c).Ag.Second)] 38
abbrev qdvx_7:=bk (z+1) #[i6 ((whole2 c).Ag.First),i6 ((whole2 c).Ag.Second)] 38
abbrev qdvx_8:=bk (z+1) #[i6 ((Gg c).Ag.First),i6 ((Gg c).Ag.Second)] 38
abbrev qdvx_9:=bk (z+1) #[i6 ((Gi c).Ag.First),i6 ((Gi c).Ag.Second)] 38
abbrev qdvx_10:=bk (z+1) #[i6 ((FH c).Ag.First),i6 ((FH c).Ag.Second)] 38
abbrev qdvx_11:=bk (z+1) #[i6 ((Ir c).Ag.First),i6 ((Ir c).Ag.Second)] 38
abbrev Es:=bk n17 #[.func (.func 74) #[] #[pt (z+2)]] 109
abbrev DW:=bk (z+1) #[i6 0,i6 0] 38
abbrev XP:=bk n75 (Am.arr (CP c p)) 111
abbrev Xt:=bk n83 (Am.arr (Dl c p)) 111
abbrev Xg:=bk n91 (Am.arr (DY c p)) 111
abbrev X0:=bk n35 (Am.arr (Gm c)) 111
abbrev Xu:=bk n43 (Am.arr (whole2 c)) 111
abbrev X8:=bk n51 (Am.arr (Gg c)) 111
abbrev Xc:=bk n59 (Am.arr (Gi c)) 111
abbrev Xz:=bk n67 (Am.arr (FH c)) 111
abbrev Xl:=bk n99 (Am.arr (Ir c)) 111
abbrev Dt:=bk (z+2) (Ai.arr c) 26
abbrev CZ:=bk z (Ai.arr c) 26
abbrev Zt:=Cm z 109 1 (fun v:Value=>[v]) (.slice ax19 ((GY (z+2)++clo 68 (z+2) B1++clo 70 (z+2) B2++clo 72 (z+2) B3++[(.func (.func 72) #[] #[pt (z+2),pt n17]:Value)]).length) cp20) (GY (z+2)++clo 68 (z+2) B1++clo 70 (z+2) B2++clo 72 (z+2) B3++[(.func (.func 72) #[] #[pt (z+2),pt n17]:Value)])
abbrev XB:=Cm z 109 1 (fun v:Value=>[v]) (.slice ax12 ((GY (z+2)++clo 68 (z+2) B1++clo 70 (z+2) B2++[(.func (.func 70) #[] #[pt (z+2),pt n10]:Value)]).length) cp13) (GY (z+2)++clo 68 (z+2) B1++clo 70 (z+2) B2++[(.func (.func 70) #[] #[pt (z+2),pt n10]:Value)])
abbrev XD:=Cm z 109 1 (fun v:Value=>[v]) (.slice ax5 ((GY (z+2)++clo 68 (z+2) B1++[(.func (.func 68) #[] #[pt (z+2),pt n3]:Value)]).length) cp6) (GY (z+2)++clo 68 (z+2) B1++[(.func (.func 68) #[] #[pt (z+2),pt n3]:Value)])
abbrev TR:=Cm z 109 1 (fun v:Value=>[v]) (.slice aL3 ((GY (z+2)++clo 68 (z+2) B1++clo 70 (z+2) B2++clo 72 (z+2) B3).length) cL3) (GY (z+2)++clo 68 (z+2) B1++clo 70 (z+2) B2++clo 72 (z+2) B3)
abbrev RN:=Cm z 109 1 (fun v:Value=>[v]) (.slice aL2 ((GY (z+2)++clo 68 (z+2) B1++clo 70 (z+2) B2).length) cL2) (GY (z+2)++clo 68 (z+2) B1++clo 70 (z+2) B2)
abbrev PK:=Cm z 109 1 (fun v:Value=>[v]) (.slice aL1 ((GY (z+2)++clo 68 (z+2) B1).length) cL1) (GY (z+2)++clo 68 (z+2) B1)
abbrev Tn:=Cm z 109 1 (fun v:Value=>[v]) (.slice (some ⟨b31,0,none⟩) ((asks (z+2) B1 B2 B3).length) cR) (asks (z+2) B1 B2 B3)
abbrev Tt:=Cm z 109 1 (fun v:Value=>[v]) (.slice (some ⟨b39,0,none⟩) ((asks (z+2) B1 B2 B3).length) cR) (asks (z+2) B1 B2 B3)
abbrev TS:=Cm z 109 1 (fun v:Value=>[v]) (.slice (some ⟨b47,0,none⟩) ((asks (z+2) B1 B2 B3).length) cR) (asks (z+2) B1 B2 B3)
abbrev TD:=Cm z 109 1 (fun v:Value=>[v]) (.slice (some ⟨b55,0,none⟩) ((asks (z+2) B1 B2 B3).length) cR) (asks (z+2) B1 B2 B3)
abbrev Td:=Cm z 109 1 (fun v:Value=>[v]) (.slice (some ⟨b63,0,none⟩) ((asks (z+2) B1 B2 B3).length) cR) (asks (z+2) B1 B2 B3)
abbrev Tm:=Cm z 109 1 (fun v:Value=>[v]) (.slice (some ⟨b71,0,none⟩) ((asks (z+2) B1 B2 B3).length) cR) (asks (z+2) B1 B2 B3)
abbrev TE:=Cm z 109 1 (fun v:Value=>[v]) (.slice (some ⟨b79,0,none⟩) ((asks (z+2) B1 B2 B3).length) cR) (asks (z+2) B1 B2 B3)
abbrev TT:=Cm z 109 1 (fun v:Value=>[v]) (.slice (some ⟨b87,0,none⟩) ((asks (z+2) B1 B2 B3).length) cR) (asks (z+2) B1 B2 B3)
abbrev TL:=Cm z 109 1 (fun v:Value=>[v]) (.slice (some ⟨b95,0,none⟩) ((asks (z+2) B1 B2 B3).length) cR) (asks (z+2) B1 B2 B3)
abbrev Zr:Dk:=(3,.slice ax19 ((GY (z+2)++clo 68 (z+2) B1++clo 70 (z+2) B2++clo 72 (z+2) B3++[(.func (.func 72) #[] #[pt (z+2),pt n17]:Value)]).length) cp20)
abbrev Xo:Dk:=(3,.slice ax12 ((GY (z+2)++clo 68 (z+2) B1++clo 70 (z+2) B2++[(.func (.func 70) #[] #[pt (z+2),pt n10]:Value)]).length) cp13)
abbrev XI:Dk:=(3,.slice ax5 ((GY (z+2)++clo 68 (z+2) B1++[(.func (.func 68) #[] #[pt (z+2),pt n3]:Value)]).length) cp6)
abbrev Vk:Dk:=(8,.slice (some ⟨b31,0,none⟩) ((asks (z+2) B1 B2 B3).length) cR)
abbrev Vf:Dk:=(8,.slice (some ⟨b39,0,none⟩) ((asks (z+2) B1 B2 B3).length) cR)
abbrev Vz:Dk:=(8,.slice (some ⟨b47,0,none⟩) ((asks (z+2) B1 B2 B3).length) cR)
abbrev Vs:Dk:=(8,.slice (some ⟨b55,0,none⟩) ((asks (z+2) B1 B2 B3).length) cR)
abbrev UR:Dk:=(8,.slice (some ⟨b63,0,none⟩) ((asks (z+2) B1 B2 B3).length) cR)
abbrev V3:Dk:=(8,.slice (some ⟨b71,0,none⟩) ((asks (z+2) B1 B2 B3).length) cR)
abbrev UZ:Dk:=(8,.slice (some ⟨b79,0,none⟩) ((asks (z+2) B1 B2 B3).length) cR)
abbrev V8:Dk:=(8,.slice (some ⟨b87,0,none⟩) ((asks (z+2) B1 B2 B3).length) cR)
abbrev VC:Dk:=(8,.slice (some ⟨b95,0,none⟩) ((asks (z+2) B1 B2 B3).length) cR)
abbrev En:=(9,i6 (((asks (z+2) B1 B2 B3).length:Nat):Int))
abbrev MX:=(15,Ac c.Aa.xs.length)
abbrev OJ:=(26,Ac c.Aj.xs.length)
abbrev Qk:=(37,Ac c.AX.xs.length)
abbrev CS:=(3,pt (z+1))
abbrev Ij:=(1,pt (z+2))
abbrev JE:=(10,i6 ((k+1:Nat):Int))
end
theorem Yb(w:World)(hL:Jm w)(c:Ai)(hc:Ai.ok Any w c)(hS:c.Aa.xs.length+c.Aj.xs.length+c.AX.xs.length≤15000000000000):Calls Tryd.prog 17 #[.agg (Ai.arr c)] w fun e w'=>e = .returned (.tuple #[.int .i64 (EI c).e,.agg #[.int .i64 (EI c).Ag.First,.int .i64 (EI c).Ag.Second]])∧CE (fun _=>False) w w':=by
 obtain⟨z,hz⟩:∃ z,z=w.heap.size:=⟨_,rfl⟩
 refine Cb (args:=[.agg (Ai.arr c)]) 25 ⟨w,z,[(Ak w)]⟩ Tryd.func17 rfl (by kernel_rfl) (by kernel_rfl) (Em hz) ?_
 have hpl:=hc.Aa.1.len;have hpc:=hc.AX.1.len;have hpch:=hc.Aj.1.len
 refine DI [0] [(0,.agg (Ai.arr c))] ?_
 refine q_c 7 1 [] [[o0,o0,o0],[(an 7 1)]] [Qb z,Qb z,Qb z,Qb z,Qb z,Qb z,Qb z] [(CS z),(7,.agg (Ai.arr c))] ⟨w,z+2,[(Ak w),(CZ z c),(DW z)]⟩ rfl ⟨rfl,rfl,rfl,rfl,rfl,rfl,rfl,Ae⟩ ?_
 refine l_call [] [] 36 #[.agg (Ai.arr c)] (some 8) Ae ?_
 intro w1 hw1
 refine Cb (args:=[.agg (Ai.arr c)]) 50 ⟨w,z+2,[(Ak w),(CZ z c),(DW z)]⟩ Tryd.func36 rfl (by kernel_rfl) (by kernel_rfl) hw1 ?_
 refine q_c 14 0 [] [[o0,o0],[o0,o0,o0,o0,o0,o0,o0],[o0,(a1 3),o0,o0]] [Qb (z+2)] [(Ij z),(3,.slice (some ⟨z+3,0,none⟩) 5 5),(MX c),(16,i6 0)] ⟨w,z+4,[(Ak w),(CZ z c),(DW z),(Dt z c),(bk (z+3) #[.func (.func 61) #[] #[pt (z+2)],.func (.func 64) #[] #[pt (z+2)],.func (.func 65) #[] #[pt (z+2)],.func (.func 66) #[] #[pt (z+2)],.func (.func 67) #[] #[pt (z+2)]] 109)]⟩ rfl ⟨rfl,Ae⟩ ?_
 refine g_blkrow 4 (z+3) z 109 1 (fun v:Value=>[v]) (GY (z+2)) #[.func (.func 61) #[] #[pt (z+2)],.func (.func 64) #[] #[pt (z+2)],.func (.func 65) #[] #[pt (z+2)],.func (.func 66) #[] #[pt (z+2)],.func (.func 67) #[] #[pt (z+2)]] (by omega) (?_:G _ _ _ _ ⟨w,z+4,[(Ak w),(CZ z c),(DW z),(Dt z c),(Cm z 109 1 (fun v:Value=>[v]) (.slice (some ⟨z+3,0,none⟩) 5 5) (GY (z+2)))]⟩ _ _ _)
 refine Zai 3 ?_
 refine Du (fun m a w'=>∃ (n3:Nat) (p0:Nat) (B1:List Nat) (aL1:Option Addr) (cL1:Nat),m=c.Aa.xs.length - p0∧z+4≤n3∧(p0≤c.Aa.xs.length)∧(B1.length=p0)∧St 50 [(Ij z),(3,.slice aL1 ((GY (z+2)++clo 68 (z+2) B1).length) cL1),(MX c),(16,Ac p0)] [] ⟨w,n3,[(Ak w),(CZ z c),(DW z),(Dt z c),(PK z B1 aL1 cL1),(caps 3 B1)]⟩ a w') (c.Aa.xs.length - 0) ?_ ?_
 ·intro a w' hs;exact⟨(z+4),0,([]),(some ⟨z+3,0,none⟩),5,rfl,Nat.le_refl _,Nat.zero_le _,rfl,(by(try dsimp only[DW,Dt,CZ,PK,MX,CS,Ij]at hs ⊢);rw[show clo 68 (z+2) []=[]from rfl,List.append_nil];exact hs)⟩
 rintro m a w' ⟨n3,p0,B1,aL1,cL1,rfl,hn2,hkp0,hB1,hs⟩
 refine(?_:G Tryd.prog 50 [(Ij z),(3,.slice aL1 ((GY (z+2)++clo 68 (z+2) B1).length) cL1),(MX c),(16,Ac p0)] [] ⟨w,n3,[(Ak w),(CZ z c),(DW z),(Dt z c),(PK z B1 aL1 cL1),(caps 3 B1)]⟩ _ _ _) a w' hs
 clear hs a w'
 have hxl1:(GY (z+2)++clo 68 (z+2) B1).length=5+p0:=by simp only[List.length_append,KE,hB1];rfl
 refine CB ?_
 by_cases h4:(p0:Int)<(c.Aa.xs.length:Int)
 ·refine q_c 14 3 [1] [[oT],[o0,o0,(a1 6)],[o0,o0,o0]] [BT ((p0:Int)<(c.Aa.xs.length:Int)),Qb n3] [(Ij z),(MX c),(16,Ac p0),(19,.slice aL1 ((GY (z+2)++clo 68 (z+2) B1).length) cL1),(21,.slice (some ⟨n3+1,0,none⟩) 1 1)] ⟨w,n3+2,[(Ak w),(CZ z c),(DW z),(Dt z c),(PK z B1 aL1 cL1),(caps 3 B1),(bk n3 #[(Ac p0)] 3),(Zh z n3)]⟩ rfl ⟨bt,rfl,Ae⟩ ?_
  refine Xq z 4 7 (GY (z+2)++clo 68 (z+2) B1) [(.func (.func 68) #[] #[pt (z+2),pt n3]:Value)] (fun v:Value=>[v]) 109 1 8 (.slice aL1 ((GY (z+2)++clo 68 (z+2) B1).length) cL1) (n3+1) 1 1 #[.func (.func 68) #[] #[pt (z+2),pt n3]] 109 (0,0) true (some 22) (by simp only[List.length_cons,List.length_nil];omega) (by simp only[List.length_cons,List.length_nil];omega) (show z≤n3+2 by omega) (fun ax5 cp6 n7 (hn8:n3+2≤n7) => ?_)
  refine Bq 5 0 [] [[o0],[(ov (i6 ((p0+1:Nat):Int))),o0]] [Wr ((p0:Int)+1) (((p0+1:Nat):Int))] [(Ij z),(MX c),(16,i6 ((p0+1:Nat):Int)),(XI z n3 B1 ax5 cp6)] rfl ⟨BQ,Ae⟩ ?_
  refine e_caps 5 6 [0,1,2,3,4,7] 3 B1 n3 p0 [(Ak w),(CZ z c),(DW z),(Dt z c),(XD z n3 B1 ax5 cp6),(Zh z n3)] hB1 ?_
  refine BX [0,1,2,3,4,6] [(Ak w),(CZ z c),(DW z),(Dt z c),(XD z n3 B1 ax5 cp6),(caps 3 (B1++[n3]))] rfl rfl ?_
  refine BK [1,3,15,16] [(Ij z),(XI z n3 B1 ax5 cp6),(MX c),(16,i6 ((p0+1:Nat):Int))] ?_
  refine BO (fun a w' hs=>⟨c.Aa.xs.length - (p0+1),by omega,n7,(p0+1),(B1++[n3]),ax5,cp6,rfl,by omega,by omega,(by rw[List.length_append,hB1];rfl),(by(try dsimp only[Zh,DW,Dt,CZ,XD,PK,XI,MX,Ij]at hs ⊢);rw[Yf,←List.append_assoc];exact hs)⟩)
 refine Au 16 0 [0] [[oF],[o0,(a1 3),o0,o0]] [BF ((p0:Int)<(c.Aa.xs.length:Int)),Qb (z+2)] [(Ij z),(3,.slice aL1 ((GY (z+2)++clo 68 (z+2) B1).length) cL1),(OJ c),(27,i6 0)] rfl ⟨bf,rfl,Ae⟩ ?_
 refine Zai 3 ?_
 refine Du (fun m a w'=>∃ (n10:Nat) (h0:Nat) (B2:List Nat) (aL2:Option Addr) (cL2:Nat),m=c.Aj.xs.length - h0∧n3≤n10∧(h0≤c.Aj.xs.length)∧(B2.length=h0)∧St 50 [(Ij z),(3,.slice aL2 ((GY (z+2)++clo 68 (z+2) B1++clo 70 (z+2) B2).length) cL2),(OJ c),(27,Ac h0)] [] ⟨w,n10,[(Ak w),(CZ z c),(DW z),(Dt z c),(RN z B1 B2 aL2 cL2),(caps 3 B1),(caps 3 B2)]⟩ a w') (c.Aj.xs.length - 0) ?_ ?_
 ·intro a w' hs;exact⟨n3,0,([]),aL1,cL1,rfl,Nat.le_refl _,Nat.zero_le _,rfl,(by(try dsimp only[Zh,DW,Dt,CZ,XD,RN,PK,XI,MX,OJ,Ij]at hs ⊢);rw[show clo 70 (z+2) []=[]from rfl,List.append_nil];exact hs)⟩
 rintro m a w' ⟨n10,h0,B2,aL2,cL2,rfl,hn9,hkh0,hB2,hs⟩
 refine(?_:G Tryd.prog 50 [(Ij z),(3,.slice aL2 ((GY (z+2)++clo 68 (z+2) B1++clo 70 (z+2) B2).length) cL2),(OJ c),(27,Ac h0)] [] ⟨w,n10,[(Ak w),(CZ z c),(DW z),(Dt z c),(RN z B1 B2 aL2 cL2),(caps 3 B1),(caps 3 B2)]⟩ _ _ _) a w' hs
 clear hs a w'
 have hxl2:(GY (z+2)++clo 68 (z+2) B1++clo 70 (z+2) B2).length=5+B1.length+h0:=by simp only[List.length_append,KE,hB2];rfl
 refine CB ?_
 by_cases h11:(h0:Int)<(c.Aj.xs.length:Int)
 ·refine q_c 14 3 [1] [[oT],[o0,o0,(a1 7)],[o0,o0,o0]] [BT ((h0:Int)<(c.Aj.xs.length:Int)),Qb n10] [(Ij z),(OJ c),(27,Ac h0),(30,.slice aL2 ((GY (z+2)++clo 68 (z+2) B1++clo 70 (z+2) B2).length) cL2),(32,.slice (some ⟨n10+1,0,none⟩) 1 1)] ⟨w,n10+2,[(Ak w),(CZ z c),(DW z),(Dt z c),(RN z B1 B2 aL2 cL2),(caps 3 B1),(caps 3 B2),(bk n10 #[(Ac h0)] 3),(Zc n10 z)]⟩ rfl ⟨bt,rfl,Ae⟩ ?_
  refine Xq z 4 8 (GY (z+2)++clo 68 (z+2) B1++clo 70 (z+2) B2) [(.func (.func 70) #[] #[pt (z+2),pt n10]:Value)] (fun v:Value=>[v]) 109 1 8 (.slice aL2 ((GY (z+2)++clo 68 (z+2) B1++clo 70 (z+2) B2).length) cL2) (n10+1) 1 1 #[.func (.func 70) #[] #[pt (z+2),pt n10]] 109 (0,0) true (some 33) (by simp only[List.length_cons,List.length_nil];omega) (by simp only[List.length_cons,List.length_nil];omega) (show z≤n10+2 by omega) (fun ax12 cp13 n14 (hn15:n10+2≤n14) => ?_)
  refine Bq 5 0 [] [[o0],[(ov (i6 ((h0+1:Nat):Int))),o0]] [Wr ((h0:Int)+1) (((h0+1:Nat):Int))] [(Ij z),(OJ c),(27,i6 ((h0+1:Nat):Int)),(Xo n10 z B1 B2 ax12 cp13)] rfl ⟨BQ,Ae⟩ ?_
  refine e_caps 6 7 [0,1,2,3,4,5,8] 3 B2 n10 h0 [(Ak w),(CZ z c),(DW z),(Dt z c),(XB n10 z B1 B2 ax12 cp13),(caps 3 B1),(Zc n10 z)] hB2 ?_
  refine BX [0,1,2,3,4,5,7] [(Ak w),(CZ z c),(DW z),(Dt z c),(XB n10 z B1 B2 ax12 cp13),(caps 3 B1),(caps 3 (B2++[n10]))] rfl rfl ?_
  refine BK [1,3,26,27] [(Ij z),(Xo n10 z B1 B2 ax12 cp13),(OJ c),(27,i6 ((h0+1:Nat):Int))] ?_
  refine BO (fun a w' hs=>⟨c.Aj.xs.length - (h0+1),by omega,n14,(h0+1),(B2++[n10]),ax12,cp13,rfl,by omega,by omega,(by rw[List.length_append,hB2];rfl),(by(try dsimp only[Zc,DW,Dt,CZ,XB,RN,PK,Xo,MX,OJ,Ij]at hs ⊢);rw[Yf,←List.append_assoc];exact hs)⟩)
 refine Au 16 0 [0] [[oF],[o0,(a1 3),o0,o0]] [BF ((h0:Int)<(c.Aj.xs.length:Int)),Qb (z+2)] [(Ij z),(3,.slice aL2 ((GY (z+2)++clo 68 (z+2) B1++clo 70 (z+2) B2).length) cL2),(Qk c),(38,i6 0)] rfl ⟨bf,rfl,Ae⟩ ?_
 refine Zai 3 ?_
 refine Du (fun m a w'=>∃ (n17:Nat) (k0:Nat) (B3:List Nat) (aL3:Option Addr) (cL3:Nat),m=c.AX.xs.length - k0∧n10≤n17∧(k0≤c.AX.xs.length)∧(B3.length=k0)∧St 50 [(Ij z),(3,.slice aL3 ((GY (z+2)++clo 68 (z+2) B1++clo 70 (z+2) B2++clo 72 (z+2) B3).length) cL3),(Qk c),(38,Ac k0)] [] ⟨w,n17,[(Ak w),(CZ z c),(DW z),(Dt z c),(TR z B1 B2 B3 aL3 cL3),(caps 3 B1),(caps 3 B2),(caps 3 B3)]⟩ a w') (c.AX.xs.length - 0) ?_ ?_
 ·intro a w' hs;exact⟨n10,0,([]),aL2,cL2,rfl,Nat.le_refl _,Nat.zero_le _,rfl,(by(try dsimp only[Zc,DW,Dt,CZ,XB,TR,RN,PK,Xo,MX,OJ,Qk,Ij]at hs ⊢);rw[show clo 72 (z+2) []=[]from rfl,List.append_nil];exact hs)⟩
 rintro m a w' ⟨n17,k0,B3,aL3,cL3,rfl,hn16,hkk0,hB3,hs⟩
 refine(?_:G Tryd.prog 50 [(Ij z),(3,.slice aL3 ((GY (z+2)++clo 68 (z+2) B1++clo 70 (z+2) B2++clo 72 (z+2) B3).length) cL3),(Qk c),(38,Ac k0)] [] ⟨w,n17,[(Ak w),(CZ z c),(DW z),(Dt z c),(TR z B1 B2 B3 aL3 cL3),(caps 3 B1),(caps 3 B2),(caps 3 B3)]⟩ _ _ _) a w' hs
 clear hs a w'
 have hxl3:(GY (z+2)++clo 68 (z+2) B1++clo 70 (z+2) B2++clo 72 (z+2) B3).length=5+B1.length+B2.length+k0:=by simp only[List.length_append,KE,hB3];rfl
 refine CB ?_
 by_cases h18:(k0:Int)<(c.AX.xs.length:Int)
 ·refine q_c 14 3 [1] [[oT],[o0,o0,(a1 8)],[o0,o0,o0]] [BT ((k0:Int)<(c.AX.xs.length:Int)),Qb n17] [(Ij z),(Qk c),(38,Ac k0),(41,.slice aL3 ((GY (z+2)++clo 68 (z+2) B1++clo 70 (z+2) B2++clo 72 (z+2) B3).length) cL3),(43,.slice (some ⟨n17+1,0,none⟩) 1 1)] ⟨w,n17+2,[(Ak w),(CZ z c),(DW z),(Dt z c),(TR z B1 B2 B3 aL3 cL3),(caps 3 B1),(caps 3 B2),(caps 3 B3),(bk n17 #[(Ac k0)] 3),(qdvx_1 z n17)]⟩ rfl ⟨bt,rfl,Ae⟩ ?_
  refine Xq z 4 9 (GY (z+2)++clo 68 (z+2) B1++clo 70 (z+2) B2++clo 72 (z+2) B3) [(.func (.func 72) #[] #[pt (z+2),pt n17]:Value)] (fun v:Value=>[v]) 109 1 8 (.slice aL3 ((GY (z+2)++clo 68 (z+2) B1++clo 70 (z+2) B2++clo 72 (z+2) B3).length) cL3) (n17+1) 1 1 #[.func (.func 72) #[] #[pt (z+2),pt n17]] 109 (0,0) true (some 44) (by simp only[List.length_cons,List.length_nil];omega) (by simp only[List.length_cons,List.length_nil];omega) (show z≤n17+2 by omega) (fun ax19 cp20 n21 (hn22:n17+2≤n21) => ?_)
  refine Bq 5 0 [] [[o0],[(ov (i6 ((k0+1:Nat):Int))),o0]] [Wr ((k0:Int)+1) (((k0+1:Nat):Int))] [(Ij z),(Qk c),(38,i6 ((k0+1:Nat):Int)),(Zr z n17 ax19 B1 B2 B3 cp20)] rfl ⟨BQ,Ae⟩ ?_
  refine e_caps 7 8 [0,1,2,3,4,5,6,9] 3 B3 n17 k0 [(Ak w),(CZ z c),(DW z),(Dt z c),(Zt z n17 ax19 B1 B2 B3 cp20),(caps 3 B1),(caps 3 B2),(qdvx_1 z n17)] hB3 ?_
  refine BX [0,1,2,3,4,5,6,8] [(Ak w),(CZ z c),(DW z),(Dt z c),(Zt z n17 ax19 B1 B2 B3 cp20),(caps 3 B1),(caps 3 B2),(caps 3 (B3++[n17]))] rfl rfl ?_
  refine BK [1,3,37,38] [(Ij z),(Zr z n17 ax19 B1 B2 B3 cp20),(Qk c),(38,i6 ((k0+1:Nat):Int))] ?_
  refine BO (fun a w' hs=>⟨c.AX.xs.length - (k0+1),by omega,n21,(k0+1),(B3++[n17]),ax19,cp20,rfl,by omega,by omega,(by rw[List.length_append,hB3];rfl),(by(try dsimp only[qdvx_1,DW,Dt,CZ,Zt,TR,RN,PK,Zr,MX,OJ,Qk,Ij]at hs ⊢);rw[Yf,←List.append_assoc];exact hs)⟩)
 refine q_c 12 3 [0] [[oF],[o0,o0,o0]] [BF ((k0:Int)<(c.AX.xs.length:Int))] [(46,.slice aL3 ((GY (z+2)++clo 68 (z+2) B1++clo 70 (z+2) B2++clo 72 (z+2) B3).length) cL3),(48,.slice (some ⟨n17,0,none⟩) 1 1)] ⟨w,n17+1,[(Ak w),(CZ z c),(DW z),(Dt z c),(TR z B1 B2 B3 aL3 cL3),(caps 3 B1),(caps 3 B2),(caps 3 B3),(Es z n17)]⟩ rfl ⟨bf,Ae⟩ ?_
 refine Xq z 4 8 (GY (z+2)++clo 68 (z+2) B1++clo 70 (z+2) B2++clo 72 (z+2) B3) [(.func (.func 74) #[] #[pt (z+2)]:Value)] (fun v:Value=>[v]) 109 1 8 (.slice aL3 ((GY (z+2)++clo 68 (z+2) B1++clo 70 (z+2) B2++clo 72 (z+2) B3).length) cL3) n17 1 1 #[.func (.func 74) #[] #[pt (z+2)]] 109 (0,0) true (some 49) (by simp only[List.length_cons,List.length_nil];omega) (by simp only[List.length_cons,List.length_nil];omega) (show z≤n17+1 by omega) (fun ax23 cp24 n25 (hn26:n17+1≤n25) => ?_)
 refine Bq 3 0 [] [[o0]] [] [(2,.slice ax23 ((GY (z+2)++clo 68 (z+2) B1++clo 70 (z+2) B2++clo 72 (z+2) B3++[(.func (.func 74) #[] #[pt (z+2)]:Value)]).length) cp24)] rfl Ae ?_
 refine Az [] [] (.slice ax23 ((GY (z+2)++clo 68 (z+2) B1++clo 70 (z+2) B2++clo 72 (z+2) B3++[(.func (.func 74) #[] #[pt (z+2)]:Value)]).length) cp24) Ae ?_
 intro w27 hw27
 refine⟨_,_,rfl,hw27, ?_⟩
 refine Bq 3 0 [] [[o0,o0]] [] [(CS z),(8,.slice ax23 ((GY (z+2)++clo 68 (z+2) B1++clo 70 (z+2) B2++clo 72 (z+2) B3++[(.func (.func 74) #[] #[pt (z+2)]:Value)]).length) cp24),(9,i6 (((GY (z+2)++clo 68 (z+2) B1++clo 70 (z+2) B2++clo 72 (z+2) B3++[(.func (.func 74) #[] #[pt (z+2)]:Value)]).length:Nat):Int)),(10,i6 0)] rfl Ae ?_
 refine Du (fun m a w'=>∃ (n29:Nat) (k:Nat) (aR:Option Addr) (cR:Nat),m=(asks (z+2) B1 B2 B3).length - k∧n25≤n29∧(k≤(asks (z+2) B1 B2 B3).length)∧(∀ i,i<k→gd (answers c) i=AQ)∧St 25 [(CS z),(8,.slice aR ((asks (z+2) B1 B2 B3).length) cR),(En z B1 B2 B3),(10,Ac k)] [] ⟨w,n29,[(Ak w),(CZ z c),(DW z),(Dt z c),(Cm z 109 1 (fun v:Value=>[v]) (.slice aR ((asks (z+2) B1 B2 B3).length) cR) (asks (z+2) B1 B2 B3)),(caps 3 B1),(caps 3 B2),(caps 3 B3),(Es z n17)]⟩ a w') ((asks (z+2) B1 B2 B3).length - 0) ?_ ?_
 ·intro a w' hs;exact⟨n25,0,ax23,cp24,rfl,Nat.le_refl _,Nat.zero_le _,fun i hi=>absurd hi (Nat.not_lt_zero i),hs⟩
 rintro m a w' ⟨n29,k,aR,cR,rfl,hn28,hkk,hf,hs⟩
 refine(?_:G Tryd.prog 25 [(CS z),(8,.slice aR ((asks (z+2) B1 B2 B3).length) cR),(En z B1 B2 B3),(10,Ac k)] [] ⟨w,n29,[(Ak w),(CZ z c),(DW z),(Dt z c),(Cm z 109 1 (fun v:Value=>[v]) (.slice aR ((asks (z+2) B1 B2 B3).length) cR) (asks (z+2) B1 B2 B3)),(caps 3 B1),(caps 3 B2),(caps 3 B3),(Es z n17)]⟩ _ _ _) a w' hs
 clear hs a w'
 have hB1:B1.length=c.Aa.xs.length:=by omega
 have hB2:B2.length=c.Aj.xs.length:=by omega
 have hB3:B3.length=c.AX.xs.length:=by omega
 have htot:(asks (z+2) B1 B2 B3).length=_:=asks_len
 refine CB ?_
 by_cases h30:(k:Int)<(((asks (z+2) B1 B2 B3).length:Nat):Int)
 ·refine Au 10 0 [1] [[oT]] [BT ((k:Int)<(((asks (z+2) B1 B2 B3).length:Nat):Int))] [(CS z),(8,.slice aR ((asks (z+2) B1 B2 B3).length) cR),(En z B1 B2 B3),(10,Ac k),(11,.bool true)] rfl ⟨bt,Ae⟩ ?_
  rcases kinds (c:=c) (bc:=z+2) hB1 hB2 hB3 (k:=k) (by omega)with⟨hk0,hv,ha⟩ | ⟨hk0,hv,ha⟩ | ⟨hk0,hv,ha⟩ | ⟨hk0,hv,ha⟩ | ⟨hk0,hv,ha⟩ | ⟨p,b,hk0,hp,hb,hv,ha⟩ | ⟨p,b,hk0,hp,hb,hv,ha⟩ | ⟨p,b,hk0,hp,hb,hv,ha⟩ | ⟨hk0,hv,ha⟩
  ·refine Lc (base:=z) (e:=109) (sz:=1) (cells:=(fun v:Value=>[v])) (a:=aR) (n:=((asks (z+2) B1 B2 B3).length)) (cap:=cR) (xs:=(asks (z+2) B1 B2 B3)) 4 (by omega) (fun b31 hg32 hb33 => ?_)
   subst hg32
   refine Au 5 1 [] [[(oi k),(oa [.via 4 (.func (.func 61) #[] #[pt (z+2)])]),o0],[o0]] [CW k,k<(asks (z+2) B1 B2 B3).length,Ce,∀ w',Ch.holds (Tn z B1 B2 B3 b31 cR) w'→w'.cell? ⟨b31,0+k,none⟩=some (.func (.func 61) #[] #[pt (z+2)])] [(CS z),(Vk z B1 B2 B3 b31 cR),(En z B1 B2 B3),(10,Ac k),(14,.func (.func 61) #[] #[pt (z+2)])] rfl ⟨rfl,(by omega),rfl,Fp (sz:=1) (j:=k) (k:=0) (fun _=>rfl) (by omega) (congrArg some hv),Ae⟩ ?_
   refine AY 61 #[pt (z+2)] (some 15) (.agg (Am.arr (Gm c))) (fun w34 hw34=>q1_calls w34 (hL.ext (hw34.ext rfl)) c (hc.ext (hw34.ext rfl) (fun _ h=>h)) (z+2) (Nh hw34 (i:=3))) (fun n35 (hn36:n29≤n35) => ?_)
   refine F8 3 0 [] [[o0,(an 3 9)]] [Qb n35,Qb n35,Qb n35] [(CS z),(Vk z B1 B2 B3 b31 cR),(En z B1 B2 B3),(10,Ac k),(6,pt n35)] ⟨w,n35+1,[(Ak w),(CZ z c),(DW z),(Dt z c),(Tn z B1 B2 B3 b31 cR),(caps 3 B1),(caps 3 B2),(caps 3 B3),(Es z n17),(X0 c n35)]⟩ rfl ⟨rfl,rfl,rfl,Ae⟩ ?_
   by_cases h37:(((Gm c).e:Int)==(0:Int)&&((((Gm c).Ag.First:Int)==(0:Int)&&(((Gm c).Ag.Second:Int)==(0:Int)&&true))&&true))=true
   ·refine Au 9 0 [0] [[(an 3 9),(oa [.via 0 (i6 0),.via 0 (i6 0),.via 0 (i6 0)]),⟨.seq true,none⟩],[(ov (i6 ((k+1:Nat):Int))),o0]] [Qb n35,Qb n35,Qb n35,Old w 0 0 (i6 0),Old w 0 1 (i6 0),Old w 0 2 (i6 0),(((Gm c).e:Int)==(0:Int)&&((((Gm c).Ag.First:Int)==(0:Int)&&(((Gm c).Ag.Second:Int)==(0:Int)&&true))&&true))=true,Wr ((k:Int)+1) (((k+1:Nat):Int))] [(CS z),(Vk z B1 B2 B3 b31 cR),(En z B1 B2 B3),(JE k)] rfl ⟨rfl,rfl,rfl,Aw (hL.2 0 _ rfl),Aw (hL.2 1 _ rfl),Aw (hL.2 2 _ rfl),h37,BQ,Ae⟩ ?_
    refine BX [0,1,2,3,4,5,6,7,8] [(Ak w),(CZ z c),(DW z),(Dt z c),(Tn z B1 B2 B3 b31 cR),(caps 3 B1),(caps 3 B2),(caps 3 B3),(Es z n17)] rfl rfl ?_
    refine BK [3,8,9,10] [(CS z),(Vk z B1 B2 B3 b31 cR),(En z B1 B2 B3),(JE k)] ?_
    refine BO (fun a w' hs=>⟨(asks (z+2) B1 B2 B3).length - (k+1),by omega,(n35+1),(k+1),(some ⟨b31,0,none⟩),cR,rfl,by omega,by omega,EP hf (by rw[ha];exact G7.1 h37),hs⟩)
   refine Au 5 0 [1] [[(an 3 9),(oa [.via 0 (i6 0),.via 0 (i6 0),.via 0 (i6 0)]),⟨.seq false,none⟩]] [Qb n35,Qb n35,Qb n35,Old w 0 0 (i6 0),Old w 0 1 (i6 0),Old w 0 2 (i6 0),(((Gm c).e:Int)==(0:Int)&&((((Gm c).Ag.First:Int)==(0:Int)&&(((Gm c).Ag.Second:Int)==(0:Int)&&true))&&true))=false] [(CS z),(Vk z B1 B2 B3 b31 cR),(En z B1 B2 B3),(10,Ac k),(6,pt n35),(18,.bool true)] rfl ⟨rfl,rfl,rfl,Aw (hL.2 0 _ rfl),Aw (hL.2 1 _ rfl),Aw (hL.2 2 _ rfl),(Bool.eq_false_iff.2 h37),Ae⟩ ?_
   refine DX 5 [0,1,2,3,4,5,6,7,8,9] [(Ak w),(CZ z c),(DW z),(Dt z c),(Tn z B1 B2 B3 b31 cR),(caps 3 B1),(caps 3 B2),(caps 3 B3),(Es z n17),(X0 c n35)] rfl rfl ?_
   refine CU [(0,o0),(1,(a1 9)),(2,o0),(3,(an 2 9)),(4,o0)] [3,22,2] [Qb n35,Qb n35,Qb n35] (D7 5 1) [(CS z),(22,.agg #[i6 ((Gm c).Ag.First),i6 ((Gm c).Ag.Second)]),(2,i6 ((Gm c).e))] ⟨rfl,rfl,rfl,Ae⟩ ?_
   refine Bl 5 ?_
   refine BA (an 2 2) [3,2] [Qb (z+1),Qb (z+1)] [(CS z),(2,i6 ((Gm c).e))] ⟨w,n35+1,[(Ak w),(CZ z c),(qdvx_6 z c),(Dt z c),(Tn z B1 B2 B3 b31 cR),(caps 3 B1),(caps 3 B2),(caps 3 B3),(Es z n17),(X0 c n35)]⟩ [] ⟨rfl,rfl,Ae⟩ (.inl rfl) ?_
   refine DU 6 [0,1,2,3,4,5,6,7,8,9] [(Ak w),(CZ z c),(qdvx_6 z c),(Dt z c),(Tn z B1 B2 B3 b31 cR),(caps 3 B1),(caps 3 B2),(caps 3 B3),(Es z n17),(X0 c n35)] rfl rfl ?_
   refine CO ?_
   refine BK [3,2] [(CS z),(2,i6 ((Gm c).e))] ?_
   refine GG <| Ku <| Az [.at 2,.at 2] [Qb (z+1),Qb (z+1)] (.tuple #[i6 ((Gm c).e),.agg #[i6 ((Gm c).Ag.First),i6 ((Gm c).Ag.Second)]]) ⟨rfl,rfl,Ae⟩ ?_
   intro w38 hw38
   exact⟨congrArg (fun t:Am=>Ending.returned (.tuple #[i6 t.e,.agg #[i6 t.Ag.First,i6 t.Ag.Second]])) ((N7 (xs:=answers c) (k:=k) (by rw[GL];omega) hf (by rw[ha];exact fun x=>h37 (G7.2 x))).trans ha).symm,AA hw38⟩
  ·refine Lc (base:=z) (e:=109) (sz:=1) (cells:=(fun v:Value=>[v])) (a:=aR) (n:=((asks (z+2) B1 B2 B3).length)) (cap:=cR) (xs:=(asks (z+2) B1 B2 B3)) 4 (by omega) (fun b39 hg40 hb41 => ?_)
   subst hg40
   refine Au 5 1 [] [[(oi k),(oa [.via 4 (.func (.func 64) #[] #[pt (z+2)])]),o0],[o0]] [CW k,k<(asks (z+2) B1 B2 B3).length,Ce,∀ w',Ch.holds (Tt z B1 B2 B3 cR b39) w'→w'.cell? ⟨b39,0+k,none⟩=some (.func (.func 64) #[] #[pt (z+2)])] [(CS z),(Vf z B1 B2 B3 cR b39),(En z B1 B2 B3),(10,Ac k),(14,.func (.func 64) #[] #[pt (z+2)])] rfl ⟨rfl,(by omega),rfl,Fp (sz:=1) (j:=k) (k:=0) (fun _=>rfl) (by omega) (congrArg some hv),Ae⟩ ?_
   refine AY 64 #[pt (z+2)] (some 15) (.agg (Am.arr (whole2 c))) (fun w42 hw42=>q2_calls w42 (hL.ext (hw42.ext rfl)) c (hc.ext (hw42.ext rfl) (fun _ h=>h)) (z+2) (Nh hw42 (i:=3))) (fun n43 (hn44:n29≤n43) => ?_)
   refine F8 3 0 [] [[o0,(an 3 9)]] [Qb n43,Qb n43,Qb n43] [(CS z),(Vf z B1 B2 B3 cR b39),(En z B1 B2 B3),(10,Ac k),(6,pt n43)] ⟨w,n43+1,[(Ak w),(CZ z c),(DW z),(Dt z c),(Tt z B1 B2 B3 cR b39),(caps 3 B1),(caps 3 B2),(caps 3 B3),(Es z n17),(Xu c n43)]⟩ rfl ⟨rfl,rfl,rfl,Ae⟩ ?_
   by_cases h45:(((whole2 c).e:Int)==(0:Int)&&((((whole2 c).Ag.First:Int)==(0:Int)&&(((whole2 c).Ag.Second:Int)==(0:Int)&&true))&&true))=true
   ·refine Au 9 0 [0] [[(an 3 9),(oa [.via 0 (i6 0),.via 0 (i6 0),.via 0 (i6 0)]),⟨.seq true,none⟩],[(ov (i6 ((k+1:Nat):Int))),o0]] [Qb n43,Qb n43,Qb n43,Old w 0 0 (i6 0),Old w 0 1 (i6 0),Old w 0 2 (i6 0),(((whole2 c).e:Int)==(0:Int)&&((((whole2 c).Ag.First:Int)==(0:Int)&&(((whole2 c).Ag.Second:Int)==(0:Int)&&true))&&true))=true,Wr ((k:Int)+1) (((k+1:Nat):Int))] [(CS z),(Vf z B1 B2 B3 cR b39),(En z B1 B2 B3),(JE k)] rfl ⟨rfl,rfl,rfl,Aw (hL.2 0 _ rfl),Aw (hL.2 1 _ rfl),Aw (hL.2 2 _ rfl),h45,BQ,Ae⟩ ?_
    refine BX [0,1,2,3,4,5,6,7,8] [(Ak w),(CZ z c),(DW z),(Dt z c),(Tt z B1 B2 B3 cR b39),(caps 3 B1),(caps 3 B2),(caps 3 B3),(Es z n17)] rfl rfl ?_
    refine BK [3,8,9,10] [(CS z),(Vf z B1 B2 B3 cR b39),(En z B1 B2 B3),(JE k)] ?_
    refine BO (fun a w' hs=>⟨(asks (z+2) B1 B2 B3).length - (k+1),by omega,(n43+1),(k+1),(some ⟨b39,0,none⟩),cR,rfl,by omega,by omega,EP hf (by rw[ha];exact G7.1 h45),hs⟩)
   refine Au 5 0 [1] [[(an 3 9),(oa [.via 0 (i6 0),.via 0 (i6 0),.via 0 (i6 0)]),⟨.seq false,none⟩]] [Qb n43,Qb n43,Qb n43,Old w 0 0 (i6 0),Old w 0 1 (i6 0),Old w 0 2 (i6 0),(((whole2 c).e:Int)==(0:Int)&&((((whole2 c).Ag.First:Int)==(0:Int)&&(((whole2 c).Ag.Second:Int)==(0:Int)&&true))&&true))=false] [(CS z),(Vf z B1 B2 B3 cR b39),(En z B1 B2 B3),(10,Ac k),(6,pt n43),(18,.bool true)] rfl ⟨rfl,rfl,rfl,Aw (hL.2 0 _ rfl),Aw (hL.2 1 _ rfl),Aw (hL.2 2 _ rfl),(Bool.eq_false_iff.2 h45),Ae⟩ ?_
   refine DX 5 [0,1,2,3,4,5,6,7,8,9] [(Ak w),(CZ z c),(DW z),(Dt z c),(Tt z B1 B2 B3 cR b39),(caps 3 B1),(caps 3 B2),(caps 3 B3),(Es z n17),(Xu c n43)] rfl rfl ?_
   refine CU [(0,o0),(1,(a1 9)),(2,o0),(3,(an 2 9)),(4,o0)] [3,22,2] [Qb n43,Qb n43,Qb n43] (D7 5 1) [(CS z),(22,.agg #[i6 ((whole2 c).Ag.First),i6 ((whole2 c).Ag.Second)]),(2,i6 ((whole2 c).e))] ⟨rfl,rfl,rfl,Ae⟩ ?_
   refine Bl 5 ?_
   refine BA (an 2 2) [3,2] [Qb (z+1),Qb (z+1)] [(CS z),(2,i6 ((whole2 c).e))] ⟨w,n43+1,[(Ak w),(CZ z c),(qdvx_7 z c),(Dt z c),(Tt z B1 B2 B3 cR b39),(caps 3 B1),(caps 3 B2),(caps 3 B3),(Es z n17),(Xu c n43)]⟩ [] ⟨rfl,rfl,Ae⟩ (.inl rfl) ?_
   refine DU 6 [0,1,2,3,4,5,6,7,8,9] [(Ak w),(CZ z c),(qdvx_7 z c),(Dt z c),(Tt z B1 B2 B3 cR b39),(caps 3 B1),(caps 3 B2),(caps 3 B3),(Es z n17),(Xu c n43)] rfl rfl ?_
   refine CO ?_
   refine BK [3,2] [(CS z),(2,i6 ((whole2 c).e))] ?_
   refine GG <| Ku <| Az [.at 2,.at 2] [Qb (z+1),Qb (z+1)] (.tuple #[i6 ((whole2 c).e),.agg #[i6 ((whole2 c).Ag.First),i6 ((whole2 c).Ag.Second)]]) ⟨rfl,rfl,Ae⟩ ?_
   intro w46 hw46
   exact⟨congrArg (fun t:Am=>Ending.returned (.tuple #[i6 t.e,.agg #[i6 t.Ag.First,i6 t.Ag.Second]])) ((N7 (xs:=answers c) (k:=k) (by rw[GL];omega) hf (by rw[ha];exact fun x=>h45 (G7.2 x))).trans ha).symm,AA hw46⟩
  ·refine Lc (base:=z) (e:=109) (sz:=1) (cells:=(fun v:Value=>[v])) (a:=aR) (n:=((asks (z+2) B1 B2 B3).length)) (cap:=cR) (xs:=(asks (z+2) B1 B2 B3)) 4 (by omega) (fun b47 hg48 hb49 => ?_)
   subst hg48
   refine Au 5 1 [] [[(oi k),(oa [.via 4 (.func (.func 65) #[] #[pt (z+2)])]),o0],[o0]] [CW k,k<(asks (z+2) B1 B2 B3).length,Ce,∀ w',Ch.holds (TS z B1 B2 B3 cR b47) w'→w'.cell? ⟨b47,0+k,none⟩=some (.func (.func 65) #[] #[pt (z+2)])] [(CS z),(Vz z B1 B2 B3 cR b47),(En z B1 B2 B3),(10,Ac k),(14,.func (.func 65) #[] #[pt (z+2)])] rfl ⟨rfl,(by omega),rfl,Fp (sz:=1) (j:=k) (k:=0) (fun _=>rfl) (by omega) (congrArg some hv),Ae⟩ ?_
   refine AY 65 #[pt (z+2)] (some 15) (.agg (Am.arr (Gg c))) (fun w50 hw50=>q3_calls w50 (hL.ext (hw50.ext rfl)) c (hc.ext (hw50.ext rfl) (fun _ h=>h)) (z+2) (Nh hw50 (i:=3))) (fun n51 (hn52:n29≤n51) => ?_)
   refine F8 3 0 [] [[o0,(an 3 9)]] [Qb n51,Qb n51,Qb n51] [(CS z),(Vz z B1 B2 B3 cR b47),(En z B1 B2 B3),(10,Ac k),(6,pt n51)] ⟨w,n51+1,[(Ak w),(CZ z c),(DW z),(Dt z c),(TS z B1 B2 B3 cR b47),(caps 3 B1),(caps 3 B2),(caps 3 B3),(Es z n17),(X8 c n51)]⟩ rfl ⟨rfl,rfl,rfl,Ae⟩ ?_
   by_cases h53:(((Gg c).e:Int)==(0:Int)&&((((Gg c).Ag.First:Int)==(0:Int)&&(((Gg c).Ag.Second:Int)==(0:Int)&&true))&&true))=true
   ·refine Au 9 0 [0] [[(an 3 9),(oa [.via 0 (i6 0),.via 0 (i6 0),.via 0 (i6 0)]),⟨.seq true,none⟩],[(ov (i6 ((k+1:Nat):Int))),o0]] [Qb n51,Qb n51,Qb n51,Old w 0 0 (i6 0),Old w 0 1 (i6 0),Old w 0 2 (i6 0),(((Gg c).e:Int)==(0:Int)&&((((Gg c).Ag.First:Int)==(0:Int)&&(((Gg c).Ag.Second:Int)==(0:Int)&&true))&&true))=true,Wr ((k:Int)+1) (((k+1:Nat):Int))] [(CS z),(Vz z B1 B2 B3 cR b47),(En z B1 B2 B3),(JE k)] rfl ⟨rfl,rfl,rfl,Aw (hL.2 0 _ rfl),Aw (hL.2 1 _ rfl),Aw (hL.2 2 _ rfl),h53,BQ,Ae⟩ ?_
    refine BX [0,1,2,3,4,5,6,7,8] [(Ak w),(CZ z c),(DW z),(Dt z c),(TS z B1 B2 B3 cR b47),(caps 3 B1),(caps 3 B2),(caps 3 B3),(Es z n17)] rfl rfl ?_
    refine BK [3,8,9,10] [(CS z),(Vz z B1 B2 B3 cR b47),(En z B1 B2 B3),(JE k)] ?_
    refine BO (fun a w' hs=>⟨(asks (z+2) B1 B2 B3).length - (k+1),by omega,(n51+1),(k+1),(some ⟨b47,0,none⟩),cR,rfl,by omega,by omega,EP hf (by rw[ha];exact G7.1 h53),hs⟩)
   refine Au 5 0 [1] [[(an 3 9),(oa [.via 0 (i6 0),.via 0 (i6 0),.via 0 (i6 0)]),⟨.seq false,none⟩]] [Qb n51,Qb n51,Qb n51,Old w 0 0 (i6 0),Old w 0 1 (i6 0),Old w 0 2 (i6 0),(((Gg c).e:Int)==(0:Int)&&((((Gg c).Ag.First:Int)==(0:Int)&&(((Gg c).Ag.Second:Int)==(0:Int)&&true))&&true))=false] [(CS z),(Vz z B1 B2 B3 cR b47),(En z B1 B2 B3),(10,Ac k),(6,pt n51),(18,.bool true)] rfl ⟨rfl,rfl,rfl,Aw (hL.2 0 _ rfl),Aw (hL.2 1 _ rfl),Aw (hL.2 2 _ rfl),(Bool.eq_false_iff.2 h53),Ae⟩ ?_
   refine DX 5 [0,1,2,3,4,5,6,7,8,9] [(Ak w),(CZ z c),(DW z),(Dt z c),(TS z B1 B2 B3 cR b47),(caps 3 B1),(caps 3 B2),(caps 3 B3),(Es z n17),(X8 c n51)] rfl rfl ?_
   refine CU [(0,o0),(1,(a1 9)),(2,o0),(3,(an 2 9)),(4,o0)] [3,22,2] [Qb n51,Qb n51,Qb n51] (D7 5 1) [(CS z),(22,.agg #[i6 ((Gg c).Ag.First),i6 ((Gg c).Ag.Second)]),(2,i6 ((Gg c).e))] ⟨rfl,rfl,rfl,Ae⟩ ?_
   refine Bl 5 ?_
   refine BA (an 2 2) [3,2] [Qb (z+1),Qb (z+1)] [(CS z),(2,i6 ((Gg c).e))] ⟨w,n51+1,[(Ak w),(CZ z c),(qdvx_8 z c),(Dt z c),(TS z B1 B2 B3 cR b47),(caps 3 B1),(caps 3 B2),(caps 3 B3),(Es z n17),(X8 c n51)]⟩ [] ⟨rfl,rfl,Ae⟩ (.inl rfl) ?_
   refine DU 6 [0,1,2,3,4,5,6,7,8,9] [(Ak w),(CZ z c),(qdvx_8 z c),(Dt z c),(TS z B1 B2 B3 cR b47),(caps 3 B1),(caps 3 B2),(caps 3 B3),(Es z n17),(X8 c n51)] rfl rfl ?_
   refine CO ?_
   refine BK [3,2] [(CS z),(2,i6 ((Gg c).e))] ?_
   refine GG <| Ku <| Az [.at 2,.at 2] [Qb (z+1),Qb (z+1)] (.tuple #[i6 ((Gg c).e),.agg #[i6 ((Gg c).Ag.First),i6 ((Gg c).Ag.Second)]]) ⟨rfl,rfl,Ae⟩ ?_
   intro w54 hw54
   exact⟨congrArg (fun t:Am=>Ending.returned (.tuple #[i6 t.e,.agg #[i6 t.Ag.First,i6 t.Ag.Second]])) ((N7 (xs:=answers c) (k:=k) (by rw[GL];omega) hf (by rw[ha];exact fun x=>h53 (G7.2 x))).trans ha).symm,AA hw54⟩
  ·refine Lc (base:=z) (e:=109) (sz:=1) (cells:=(fun v:Value=>[v])) (a:=aR) (n:=((asks (z+2) B1 B2 B3).length)) (cap:=cR) (xs:=(asks (z+2) B1 B2 B3)) 4 (by omega) (fun b55 hg56 hb57 => ?_)
   subst hg56
   refine Au 5 1 [] [[(oi k),(oa [.via 4 (.func (.func 66) #[] #[pt (z+2)])]),o0],[o0]] [CW k,k<(asks (z+2) B1 B2 B3).length,Ce,∀ w',Ch.holds (TD z B1 B2 B3 cR b55) w'→w'.cell? ⟨b55,0+k,none⟩=some (.func (.func 66) #[] #[pt (z+2)])] [(CS z),(Vs z B1 B2 B3 cR b55),(En z B1 B2 B3),(10,Ac k),(14,.func (.func 66) #[] #[pt (z+2)])] rfl ⟨rfl,(by omega),rfl,Fp (sz:=1) (j:=k) (k:=0) (fun _=>rfl) (by omega) (congrArg some hv),Ae⟩ ?_
   refine AY 66 #[pt (z+2)] (some 15) (.agg (Am.arr (Gi c))) (fun w58 hw58=>q4_calls w58 (hL.ext (hw58.ext rfl)) c (hc.ext (hw58.ext rfl) (fun _ h=>h)) (z+2) (Nh hw58 (i:=3))) (fun n59 (hn60:n29≤n59) => ?_)
   refine F8 3 0 [] [[o0,(an 3 9)]] [Qb n59,Qb n59,Qb n59] [(CS z),(Vs z B1 B2 B3 cR b55),(En z B1 B2 B3),(10,Ac k),(6,pt n59)] ⟨w,n59+1,[(Ak w),(CZ z c),(DW z),(Dt z c),(TD z B1 B2 B3 cR b55),(caps 3 B1),(caps 3 B2),(caps 3 B3),(Es z n17),(Xc c n59)]⟩ rfl ⟨rfl,rfl,rfl,Ae⟩ ?_
   by_cases h61:(((Gi c).e:Int)==(0:Int)&&((((Gi c).Ag.First:Int)==(0:Int)&&(((Gi c).Ag.Second:Int)==(0:Int)&&true))&&true))=true
   ·refine Au 9 0 [0] [[(an 3 9),(oa [.via 0 (i6 0),.via 0 (i6 0),.via 0 (i6 0)]),⟨.seq true,none⟩],[(ov (i6 ((k+1:Nat):Int))),o0]] [Qb n59,Qb n59,Qb n59,Old w 0 0 (i6 0),Old w 0 1 (i6 0),Old w 0 2 (i6 0),(((Gi c).e:Int)==(0:Int)&&((((Gi c).Ag.First:Int)==(0:Int)&&(((Gi c).Ag.Second:Int)==(0:Int)&&true))&&true))=true,Wr ((k:Int)+1) (((k+1:Nat):Int))] [(CS z),(Vs z B1 B2 B3 cR b55),(En z B1 B2 B3),(JE k)] rfl ⟨rfl,rfl,rfl,Aw (hL.2 0 _ rfl),Aw (hL.2 1 _ rfl),Aw (hL.2 2 _ rfl),h61,BQ,Ae⟩ ?_
    refine BX [0,1,2,3,4,5,6,7,8] [(Ak w),(CZ z c),(DW z),(Dt z c),(TD z B1 B2 B3 cR b55),(caps 3 B1),(caps 3 B2),(caps 3 B3),(Es z n17)] rfl rfl ?_
    refine BK [3,8,9,10] [(CS z),(Vs z B1 B2 B3 cR b55),(En z B1 B2 B3),(JE k)] ?_
    refine BO (fun a w' hs=>⟨(asks (z+2) B1 B2 B3).length - (k+1),by omega,(n59+1),(k+1),(some ⟨b55,0,none⟩),cR,rfl,by omega,by omega,EP hf (by rw[ha];exact G7.1 h61),hs⟩)
   refine Au 5 0 [1] [[(an 3 9),(oa [.via 0 (i6 0),.via 0 (i6 0),.via 0 (i6 0)]),⟨.seq false,none⟩]] [Qb n59,Qb n59,Qb n59,Old w 0 0 (i6 0),Old w 0 1 (i6 0),Old w 0 2 (i6 0),(((Gi c).e:Int)==(0:Int)&&((((Gi c).Ag.First:Int)==(0:Int)&&(((Gi c).Ag.Second:Int)==(0:Int)&&true))&&true))=false] [(CS z),(Vs z B1 B2 B3 cR b55),(En z B1 B2 B3),(10,Ac k),(6,pt n59),(18,.bool true)] rfl ⟨rfl,rfl,rfl,Aw (hL.2 0 _ rfl),Aw (hL.2 1 _ rfl),Aw (hL.2 2 _ rfl),(Bool.eq_false_iff.2 h61),Ae⟩ ?_
   refine DX 5 [0,1,2,3,4,5,6,7,8,9] [(Ak w),(CZ z c),(DW z),(Dt z c),(TD z B1 B2 B3 cR b55),(caps 3 B1),(caps 3 B2),(caps 3 B3),(Es z n17),(Xc c n59)] rfl rfl ?_
   refine CU [(0,o0),(1,(a1 9)),(2,o0),(3,(an 2 9)),(4,o0)] [3,22,2] [Qb n59,Qb n59,Qb n59] (D7 5 1) [(CS z),(22,.agg #[i6 ((Gi c).Ag.First),i6 ((Gi c).Ag.Second)]),(2,i6 ((Gi c).e))] ⟨rfl,rfl,rfl,Ae⟩ ?_
   refine Bl 5 ?_
   refine BA (an 2 2) [3,2] [Qb (z+1),Qb (z+1)] [(CS z),(2,i6 ((Gi c).e))] ⟨w,n59+1,[(Ak w),(CZ z c),(qdvx_9 z c),(Dt z c),(TD z B1 B2 B3 cR b55),(caps 3 B1),(caps 3 B2),(caps 3 B3),(Es z n17),(Xc c n59)]⟩ [] ⟨rfl,rfl,Ae⟩ (.inl rfl) ?_
   refine DU 6 [0,1,2,3,4,5,6,7,8,9] [(Ak w),(CZ z c),(qdvx_9 z c),(Dt z c),(TD z B1 B2 B3 cR b55),(caps 3 B1),(caps 3 B2),(caps 3 B3),(Es z n17),(Xc c n59)] rfl rfl ?_
   refine CO ?_
   refine BK [3,2] [(CS z),(2,i6 ((Gi c).e))] ?_
   refine GG <| Ku <| Az [.at 2,.at 2] [Qb (z+1),Qb (z+1)] (.tuple #[i6 ((Gi c).e),.agg #[i6 ((Gi c).Ag.First),i6 ((Gi c).Ag.Second)]]) ⟨rfl,rfl,Ae⟩ ?_
   intro w62 hw62
   exact⟨congrArg (fun t:Am=>Ending.returned (.tuple #[i6 t.e,.agg #[i6 t.Ag.First,i6 t.Ag.Second]])) ((N7 (xs:=answers c) (k:=k) (by rw[GL];omega) hf (by rw[ha];exact fun x=>h61 (G7.2 x))).trans ha).symm,AA hw62⟩
  ·refine Lc (base:=z) (e:=109) (sz:=1) (cells:=(fun v:Value=>[v])) (a:=aR) (n:=((asks (z+2) B1 B2 B3).length)) (cap:=cR) (xs:=(asks (z+2) B1 B2 B3)) 4 (by omega) (fun b63 hg64 hb65 => ?_)
   subst hg64
   refine Au 5 1 [] [[(oi k),(oa [.via 4 (.func (.func 67) #[] #[pt (z+2)])]),o0],[o0]] [CW k,k<(asks (z+2) B1 B2 B3).length,Ce,∀ w',Ch.holds (Td z B1 B2 B3 cR b63) w'→w'.cell? ⟨b63,0+k,none⟩=some (.func (.func 67) #[] #[pt (z+2)])] [(CS z),(UR z B1 B2 B3 cR b63),(En z B1 B2 B3),(10,Ac k),(14,.func (.func 67) #[] #[pt (z+2)])] rfl ⟨rfl,(by omega),rfl,Fp (sz:=1) (j:=k) (k:=0) (fun _=>rfl) (by omega) (congrArg some hv),Ae⟩ ?_
   refine AY 67 #[pt (z+2)] (some 15) (.agg (Am.arr (FH c))) (fun w66 hw66=>q5_calls w66 (hL.ext (hw66.ext rfl)) c (hc.ext (hw66.ext rfl) (fun _ h=>h)) (z+2) (Nh hw66 (i:=3))) (fun n67 (hn68:n29≤n67) => ?_)
   refine F8 3 0 [] [[o0,(an 3 9)]] [Qb n67,Qb n67,Qb n67] [(CS z),(UR z B1 B2 B3 cR b63),(En z B1 B2 B3),(10,Ac k),(6,pt n67)] ⟨w,n67+1,[(Ak w),(CZ z c),(DW z),(Dt z c),(Td z B1 B2 B3 cR b63),(caps 3 B1),(caps 3 B2),(caps 3 B3),(Es z n17),(Xz c n67)]⟩ rfl ⟨rfl,rfl,rfl,Ae⟩ ?_
   by_cases h69:(((FH c).e:Int)==(0:Int)&&((((FH c).Ag.First:Int)==(0:Int)&&(((FH c).Ag.Second:Int)==(0:Int)&&true))&&true))=true
   ·refine Au 9 0 [0] [[(an 3 9),(oa [.via 0 (i6 0),.via 0 (i6 0),.via 0 (i6 0)]),⟨.seq true,none⟩],[(ov (i6 ((k+1:Nat):Int))),o0]] [Qb n67,Qb n67,Qb n67,Old w 0 0 (i6 0),Old w 0 1 (i6 0),Old w 0 2 (i6 0),(((FH c).e:Int)==(0:Int)&&((((FH c).Ag.First:Int)==(0:Int)&&(((FH c).Ag.Second:Int)==(0:Int)&&true))&&true))=true,Wr ((k:Int)+1) (((k+1:Nat):Int))] [(CS z),(UR z B1 B2 B3 cR b63),(En z B1 B2 B3),(JE k)] rfl ⟨rfl,rfl,rfl,Aw (hL.2 0 _ rfl),Aw (hL.2 1 _ rfl),Aw (hL.2 2 _ rfl),h69,BQ,Ae⟩ ?_
    refine BX [0,1,2,3,4,5,6,7,8] [(Ak w),(CZ z c),(DW z),(Dt z c),(Td z B1 B2 B3 cR b63),(caps 3 B1),(caps 3 B2),(caps 3 B3),(Es z n17)] rfl rfl ?_
    refine BK [3,8,9,10] [(CS z),(UR z B1 B2 B3 cR b63),(En z B1 B2 B3),(JE k)] ?_
    refine BO (fun a w' hs=>⟨(asks (z+2) B1 B2 B3).length - (k+1),by omega,(n67+1),(k+1),(some ⟨b63,0,none⟩),cR,rfl,by omega,by omega,EP hf (by rw[ha];exact G7.1 h69),hs⟩)
   refine Au 5 0 [1] [[(an 3 9),(oa [.via 0 (i6 0),.via 0 (i6 0),.via 0 (i6 0)]),⟨.seq false,none⟩]] [Qb n67,Qb n67,Qb n67,Old w 0 0 (i6 0),Old w 0 1 (i6 0),Old w 0 2 (i6 0),(((FH c).e:Int)==(0:Int)&&((((FH c).Ag.First:Int)==(0:Int)&&(((FH c).Ag.Second:Int)==(0:Int)&&true))&&true))=false] [(CS z),(UR z B1 B2 B3 cR b63),(En z B1 B2 B3),(10,Ac k),(6,pt n67),(18,.bool true)] rfl ⟨rfl,rfl,rfl,Aw (hL.2 0 _ rfl),Aw (hL.2 1 _ rfl),Aw (hL.2 2 _ rfl),(Bool.eq_false_iff.2 h69),Ae⟩ ?_
   refine DX 5 [0,1,2,3,4,5,6,7,8,9] [(Ak w),(CZ z c),(DW z),(Dt z c),(Td z B1 B2 B3 cR b63),(caps 3 B1),(caps 3 B2),(caps 3 B3),(Es z n17),(Xz c n67)] rfl rfl ?_
   refine CU [(0,o0),(1,(a1 9)),(2,o0),(3,(an 2 9)),(4,o0)] [3,22,2] [Qb n67,Qb n67,Qb n67] (D7 5 1) [(CS z),(22,.agg #[i6 ((FH c).Ag.First),i6 ((FH c).Ag.Second)]),(2,i6 ((FH c).e))] ⟨rfl,rfl,rfl,Ae⟩ ?_
   refine Bl 5 ?_
   refine BA (an 2 2) [3,2] [Qb (z+1),Qb (z+1)] [(CS z),(2,i6 ((FH c).e))] ⟨w,n67+1,[(Ak w),(CZ z c),(qdvx_10 z c),(Dt z c),(Td z B1 B2 B3 cR b63),(caps 3 B1),(caps 3 B2),(caps 3 B3),(Es z n17),(Xz c n67)]⟩ [] ⟨rfl,rfl,Ae⟩ (.inl rfl) ?_
   refine DU 6 [0,1,2,3,4,5,6,7,8,9] [(Ak w),(CZ z c),(qdvx_10 z c),(Dt z c),(Td z B1 B2 B3 cR b63),(caps 3 B1),(caps 3 B2),(caps 3 B3),(Es z n17),(Xz c n67)] rfl rfl ?_
   refine CO ?_
   refine BK [3,2] [(CS z),(2,i6 ((FH c).e))] ?_
   refine GG <| Ku <| Az [.at 2,.at 2] [Qb (z+1),Qb (z+1)] (.tuple #[i6 ((FH c).e),.agg #[i6 ((FH c).Ag.First),i6 ((FH c).Ag.Second)]]) ⟨rfl,rfl,Ae⟩ ?_
   intro w70 hw70
   exact⟨congrArg (fun t:Am=>Ending.returned (.tuple #[i6 t.e,.agg #[i6 t.Ag.First,i6 t.Ag.Second]])) ((N7 (xs:=answers c) (k:=k) (by rw[GL];omega) hf (by rw[ha];exact fun x=>h69 (G7.2 x))).trans ha).symm,AA hw70⟩
  ·have hFr:=Wu hf (by omega)
   have hpf:∀ q,q<p→CP c q=AQ:=fun q hq=>Zag hf (by omega) (by omega)
   refine Lc (base:=z) (e:=109) (sz:=1) (cells:=(fun v:Value=>[v])) (a:=aR) (n:=((asks (z+2) B1 B2 B3).length)) (cap:=cR) (xs:=(asks (z+2) B1 B2 B3)) 4 (by omega) (fun b71 hg72 hb73 => ?_)
   subst hg72
   refine Au 5 1 [] [[(oi k),(oa [.via 4 (.func (.func 68) #[] #[pt (z+2),pt b])]),o0],[o0]] [CW k,k<(asks (z+2) B1 B2 B3).length,Ce,∀ w',Ch.holds (Tm z B1 B2 B3 cR b71) w'→w'.cell? ⟨b71,0+k,none⟩=some (.func (.func 68) #[] #[pt (z+2),pt b])] [(CS z),(V3 z B1 B2 B3 cR b71),(En z B1 B2 B3),(10,Ac k),(14,.func (.func 68) #[] #[pt (z+2),pt b])] rfl ⟨rfl,(by omega),rfl,Fp (sz:=1) (j:=k) (k:=0) (fun _=>rfl) (by omega) (congrArg some hv),Ae⟩ ?_
   refine AY 68 #[pt (z+2),pt b] (some 15) (.agg (Am.arr (CP c p))) (fun w74 hw74=>q6_calls w74 (hL.ext (hw74.ext rfl)) c (hc.ext (hw74.ext rfl) (fun _ h=>h)) (z+2) (Nh hw74 (i:=3)) b p (VO hw74 hb (i:=5)) hp hFr hpf) (fun n75 (hn76:n29≤n75) => ?_)
   refine F8 3 0 [] [[o0,(an 3 9)]] [Qb n75,Qb n75,Qb n75] [(CS z),(V3 z B1 B2 B3 cR b71),(En z B1 B2 B3),(10,Ac k),(6,pt n75)] ⟨w,n75+1,[(Ak w),(CZ z c),(DW z),(Dt z c),(Tm z B1 B2 B3 cR b71),(caps 3 B1),(caps 3 B2),(caps 3 B3),(Es z n17),(XP c p n75)]⟩ rfl ⟨rfl,rfl,rfl,Ae⟩ ?_
   by_cases h77:(((CP c p).e:Int)==(0:Int)&&((((CP c p).Ag.First:Int)==(0:Int)&&(((CP c p).Ag.Second:Int)==(0:Int)&&true))&&true))=true
   ·refine Au 9 0 [0] [[(an 3 9),(oa [.via 0 (i6 0),.via 0 (i6 0),.via 0 (i6 0)]),⟨.seq true,none⟩],[(ov (i6 ((k+1:Nat):Int))),o0]] [Qb n75,Qb n75,Qb n75,Old w 0 0 (i6 0),Old w 0 1 (i6 0),Old w 0 2 (i6 0),(((CP c p).e:Int)==(0:Int)&&((((CP c p).Ag.First:Int)==(0:Int)&&(((CP c p).Ag.Second:Int)==(0:Int)&&true))&&true))=true,Wr ((k:Int)+1) (((k+1:Nat):Int))] [(CS z),(V3 z B1 B2 B3 cR b71),(En z B1 B2 B3),(JE k)] rfl ⟨rfl,rfl,rfl,Aw (hL.2 0 _ rfl),Aw (hL.2 1 _ rfl),Aw (hL.2 2 _ rfl),h77,BQ,Ae⟩ ?_
    refine BX [0,1,2,3,4,5,6,7,8] [(Ak w),(CZ z c),(DW z),(Dt z c),(Tm z B1 B2 B3 cR b71),(caps 3 B1),(caps 3 B2),(caps 3 B3),(Es z n17)] rfl rfl ?_
    refine BK [3,8,9,10] [(CS z),(V3 z B1 B2 B3 cR b71),(En z B1 B2 B3),(JE k)] ?_
    refine BO (fun a w' hs=>⟨(asks (z+2) B1 B2 B3).length - (k+1),by omega,(n75+1),(k+1),(some ⟨b71,0,none⟩),cR,rfl,by omega,by omega,EP hf (by rw[ha];exact G7.1 h77),hs⟩)
   refine Au 5 0 [1] [[(an 3 9),(oa [.via 0 (i6 0),.via 0 (i6 0),.via 0 (i6 0)]),⟨.seq false,none⟩]] [Qb n75,Qb n75,Qb n75,Old w 0 0 (i6 0),Old w 0 1 (i6 0),Old w 0 2 (i6 0),(((CP c p).e:Int)==(0:Int)&&((((CP c p).Ag.First:Int)==(0:Int)&&(((CP c p).Ag.Second:Int)==(0:Int)&&true))&&true))=false] [(CS z),(V3 z B1 B2 B3 cR b71),(En z B1 B2 B3),(10,Ac k),(6,pt n75),(18,.bool true)] rfl ⟨rfl,rfl,rfl,Aw (hL.2 0 _ rfl),Aw (hL.2 1 _ rfl),Aw (hL.2 2 _ rfl),(Bool.eq_false_iff.2 h77),Ae⟩ ?_
   refine DX 5 [0,1,2,3,4,5,6,7,8,9] [(Ak w),(CZ z c),(DW z),(Dt z c),(Tm z B1 B2 B3 cR b71),(caps 3 B1),(caps 3 B2),(caps 3 B3),(Es z n17),(XP c p n75)] rfl rfl ?_
   refine CU [(0,o0),(1,(a1 9)),(2,o0),(3,(an 2 9)),(4,o0)] [3,22,2] [Qb n75,Qb n75,Qb n75] (D7 5 1) [(CS z),(22,.agg #[i6 ((CP c p).Ag.First),i6 ((CP c p).Ag.Second)]),(2,i6 ((CP c p).e))] ⟨rfl,rfl,rfl,Ae⟩ ?_
   refine Bl 5 ?_
   refine BA (an 2 2) [3,2] [Qb (z+1),Qb (z+1)] [(CS z),(2,i6 ((CP c p).e))] ⟨w,n75+1,[(Ak w),(CZ z c),(qdvx_3 z c p),(Dt z c),(Tm z B1 B2 B3 cR b71),(caps 3 B1),(caps 3 B2),(caps 3 B3),(Es z n17),(XP c p n75)]⟩ [] ⟨rfl,rfl,Ae⟩ (.inl rfl) ?_
   refine DU 6 [0,1,2,3,4,5,6,7,8,9] [(Ak w),(CZ z c),(qdvx_3 z c p),(Dt z c),(Tm z B1 B2 B3 cR b71),(caps 3 B1),(caps 3 B2),(caps 3 B3),(Es z n17),(XP c p n75)] rfl rfl ?_
   refine CO ?_
   refine BK [3,2] [(CS z),(2,i6 ((CP c p).e))] ?_
   refine GG <| Ku <| Az [.at 2,.at 2] [Qb (z+1),Qb (z+1)] (.tuple #[i6 ((CP c p).e),.agg #[i6 ((CP c p).Ag.First),i6 ((CP c p).Ag.Second)]]) ⟨rfl,rfl,Ae⟩ ?_
   intro w78 hw78
   exact⟨congrArg (fun t:Am=>Ending.returned (.tuple #[i6 t.e,.agg #[i6 t.Ag.First,i6 t.Ag.Second]])) ((N7 (xs:=answers c) (k:=k) (by rw[GL];omega) hf (by rw[ha];exact fun x=>h77 (G7.2 x))).trans ha).symm,AA hw78⟩
  ·have hm:=parts_of hf (by omega);have hq:=ports_of hf (by omega)
   refine Lc (base:=z) (e:=109) (sz:=1) (cells:=(fun v:Value=>[v])) (a:=aR) (n:=((asks (z+2) B1 B2 B3).length)) (cap:=cR) (xs:=(asks (z+2) B1 B2 B3)) 4 (by omega) (fun b79 hg80 hb81 => ?_)
   subst hg80
   refine Au 5 1 [] [[(oi k),(oa [.via 4 (.func (.func 70) #[] #[pt (z+2),pt b])]),o0],[o0]] [CW k,k<(asks (z+2) B1 B2 B3).length,Ce,∀ w',Ch.holds (TE z B1 B2 B3 cR b79) w'→w'.cell? ⟨b79,0+k,none⟩=some (.func (.func 70) #[] #[pt (z+2),pt b])] [(CS z),(UZ z B1 B2 B3 cR b79),(En z B1 B2 B3),(10,Ac k),(14,.func (.func 70) #[] #[pt (z+2),pt b])] rfl ⟨rfl,(by omega),rfl,Fp (sz:=1) (j:=k) (k:=0) (fun _=>rfl) (by omega) (congrArg some hv),Ae⟩ ?_
   refine AY 70 #[pt (z+2),pt b] (some 15) (.agg (Am.arr (Dl c p))) (fun w82 hw82=>q7_calls w82 (hL.ext (hw82.ext rfl)) c (hc.ext (hw82.ext rfl) (fun _ h=>h)) (z+2) (Nh hw82 (i:=3)) b p (VO hw82 hb (i:=6)) hp hm hq) (fun n83 (hn84:n29≤n83) => ?_)
   refine F8 3 0 [] [[o0,(an 3 9)]] [Qb n83,Qb n83,Qb n83] [(CS z),(UZ z B1 B2 B3 cR b79),(En z B1 B2 B3),(10,Ac k),(6,pt n83)] ⟨w,n83+1,[(Ak w),(CZ z c),(DW z),(Dt z c),(TE z B1 B2 B3 cR b79),(caps 3 B1),(caps 3 B2),(caps 3 B3),(Es z n17),(Xt c p n83)]⟩ rfl ⟨rfl,rfl,rfl,Ae⟩ ?_
   by_cases h85:(((Dl c p).e:Int)==(0:Int)&&((((Dl c p).Ag.First:Int)==(0:Int)&&(((Dl c p).Ag.Second:Int)==(0:Int)&&true))&&true))=true
   ·refine Au 9 0 [0] [[(an 3 9),(oa [.via 0 (i6 0),.via 0 (i6 0),.via 0 (i6 0)]),⟨.seq true,none⟩],[(ov (i6 ((k+1:Nat):Int))),o0]] [Qb n83,Qb n83,Qb n83,Old w 0 0 (i6 0),Old w 0 1 (i6 0),Old w 0 2 (i6 0),(((Dl c p).e:Int)==(0:Int)&&((((Dl c p).Ag.First:Int)==(0:Int)&&(((Dl c p).Ag.Second:Int)==(0:Int)&&true))&&true))=true,Wr ((k:Int)+1) (((k+1:Nat):Int))] [(CS z),(UZ z B1 B2 B3 cR b79),(En z B1 B2 B3),(JE k)] rfl ⟨rfl,rfl,rfl,Aw (hL.2 0 _ rfl),Aw (hL.2 1 _ rfl),Aw (hL.2 2 _ rfl),h85,BQ,Ae⟩ ?_
    refine BX [0,1,2,3,4,5,6,7,8] [(Ak w),(CZ z c),(DW z),(Dt z c),(TE z B1 B2 B3 cR b79),(caps 3 B1),(caps 3 B2),(caps 3 B3),(Es z n17)] rfl rfl ?_
    refine BK [3,8,9,10] [(CS z),(UZ z B1 B2 B3 cR b79),(En z B1 B2 B3),(JE k)] ?_
    refine BO (fun a w' hs=>⟨(asks (z+2) B1 B2 B3).length - (k+1),by omega,(n83+1),(k+1),(some ⟨b79,0,none⟩),cR,rfl,by omega,by omega,EP hf (by rw[ha];exact G7.1 h85),hs⟩)
   refine Au 5 0 [1] [[(an 3 9),(oa [.via 0 (i6 0),.via 0 (i6 0),.via 0 (i6 0)]),⟨.seq false,none⟩]] [Qb n83,Qb n83,Qb n83,Old w 0 0 (i6 0),Old w 0 1 (i6 0),Old w 0 2 (i6 0),(((Dl c p).e:Int)==(0:Int)&&((((Dl c p).Ag.First:Int)==(0:Int)&&(((Dl c p).Ag.Second:Int)==(0:Int)&&true))&&true))=false] [(CS z),(UZ z B1 B2 B3 cR b79),(En z B1 B2 B3),(10,Ac k),(6,pt n83),(18,.bool true)] rfl ⟨rfl,rfl,rfl,Aw (hL.2 0 _ rfl),Aw (hL.2 1 _ rfl),Aw (hL.2 2 _ rfl),(Bool.eq_false_iff.2 h85),Ae⟩ ?_
   refine DX 5 [0,1,2,3,4,5,6,7,8,9] [(Ak w),(CZ z c),(DW z),(Dt z c),(TE z B1 B2 B3 cR b79),(caps 3 B1),(caps 3 B2),(caps 3 B3),(Es z n17),(Xt c p n83)] rfl rfl ?_
   refine CU [(0,o0),(1,(a1 9)),(2,o0),(3,(an 2 9)),(4,o0)] [3,22,2] [Qb n83,Qb n83,Qb n83] (D7 5 1) [(CS z),(22,.agg #[i6 ((Dl c p).Ag.First),i6 ((Dl c p).Ag.Second)]),(2,i6 ((Dl c p).e))] ⟨rfl,rfl,rfl,Ae⟩ ?_
   refine Bl 5 ?_
   refine BA (an 2 2) [3,2] [Qb (z+1),Qb (z+1)] [(CS z),(2,i6 ((Dl c p).e))] ⟨w,n83+1,[(Ak w),(CZ z c),(qdvx_4 z c p),(Dt z c),(TE z B1 B2 B3 cR b79),(caps 3 B1),(caps 3 B2),(caps 3 B3),(Es z n17),(Xt c p n83)]⟩ [] ⟨rfl,rfl,Ae⟩ (.inl rfl) ?_
   refine DU 6 [0,1,2,3,4,5,6,7,8,9] [(Ak w),(CZ z c),(qdvx_4 z c p),(Dt z c),(TE z B1 B2 B3 cR b79),(caps 3 B1),(caps 3 B2),(caps 3 B3),(Es z n17),(Xt c p n83)] rfl rfl ?_
   refine CO ?_
   refine BK [3,2] [(CS z),(2,i6 ((Dl c p).e))] ?_
   refine GG <| Ku <| Az [.at 2,.at 2] [Qb (z+1),Qb (z+1)] (.tuple #[i6 ((Dl c p).e),.agg #[i6 ((Dl c p).Ag.First),i6 ((Dl c p).Ag.Second)]]) ⟨rfl,rfl,Ae⟩ ?_
   intro w86 hw86
   exact⟨congrArg (fun t:Am=>Ending.returned (.tuple #[i6 t.e,.agg #[i6 t.Ag.First,i6 t.Ag.Second]])) ((N7 (xs:=answers c) (k:=k) (by rw[GL];omega) hf (by rw[ha];exact fun x=>h85 (G7.2 x))).trans ha).symm,AA hw86⟩
  ·refine Lc (base:=z) (e:=109) (sz:=1) (cells:=(fun v:Value=>[v])) (a:=aR) (n:=((asks (z+2) B1 B2 B3).length)) (cap:=cR) (xs:=(asks (z+2) B1 B2 B3)) 4 (by omega) (fun b87 hg88 hb89 => ?_)
   subst hg88
   refine Au 5 1 [] [[(oi k),(oa [.via 4 (.func (.func 72) #[] #[pt (z+2),pt b])]),o0],[o0]] [CW k,k<(asks (z+2) B1 B2 B3).length,Ce,∀ w',Ch.holds (TT z B1 B2 B3 cR b87) w'→w'.cell? ⟨b87,0+k,none⟩=some (.func (.func 72) #[] #[pt (z+2),pt b])] [(CS z),(V8 z B1 B2 B3 cR b87),(En z B1 B2 B3),(10,Ac k),(14,.func (.func 72) #[] #[pt (z+2),pt b])] rfl ⟨rfl,(by omega),rfl,Fp (sz:=1) (j:=k) (k:=0) (fun _=>rfl) (by omega) (congrArg some hv),Ae⟩ ?_
   refine AY 72 #[pt (z+2),pt b] (some 15) (.agg (Am.arr (DY c p))) (fun w90 hw90=>q8_calls w90 (hL.ext (hw90.ext rfl)) c (hc.ext (hw90.ext rfl) (fun _ h=>h)) (z+2) (Nh hw90 (i:=3)) b p (VO hw90 hb (i:=7)) hp) (fun n91 (hn92:n29≤n91) => ?_)
   refine F8 3 0 [] [[o0,(an 3 9)]] [Qb n91,Qb n91,Qb n91] [(CS z),(V8 z B1 B2 B3 cR b87),(En z B1 B2 B3),(10,Ac k),(6,pt n91)] ⟨w,n91+1,[(Ak w),(CZ z c),(DW z),(Dt z c),(TT z B1 B2 B3 cR b87),(caps 3 B1),(caps 3 B2),(caps 3 B3),(Es z n17),(Xg c p n91)]⟩ rfl ⟨rfl,rfl,rfl,Ae⟩ ?_
   by_cases h93:(((DY c p).e:Int)==(0:Int)&&((((DY c p).Ag.First:Int)==(0:Int)&&(((DY c p).Ag.Second:Int)==(0:Int)&&true))&&true))=true
   ·refine Au 9 0 [0] [[(an 3 9),(oa [.via 0 (i6 0),.via 0 (i6 0),.via 0 (i6 0)]),⟨.seq true,none⟩],[(ov (i6 ((k+1:Nat):Int))),o0]] [Qb n91,Qb n91,Qb n91,Old w 0 0 (i6 0),Old w 0 1 (i6 0),Old w 0 2 (i6 0),(((DY c p).e:Int)==(0:Int)&&((((DY c p).Ag.First:Int)==(0:Int)&&(((DY c p).Ag.Second:Int)==(0:Int)&&true))&&true))=true,Wr ((k:Int)+1) (((k+1:Nat):Int))] [(CS z),(V8 z B1 B2 B3 cR b87),(En z B1 B2 B3),(JE k)] rfl ⟨rfl,rfl,rfl,Aw (hL.2 0 _ rfl),Aw (hL.2 1 _ rfl),Aw (hL.2 2 _ rfl),h93,BQ,Ae⟩ ?_
    refine BX [0,1,2,3,4,5,6,7,8] [(Ak w),(CZ z c),(DW z),(Dt z c),(TT z B1 B2 B3 cR b87),(caps 3 B1),(caps 3 B2),(caps 3 B3),(Es z n17)] rfl rfl ?_
    refine BK [3,8,9,10] [(CS z),(V8 z B1 B2 B3 cR b87),(En z B1 B2 B3),(JE k)] ?_
    refine BO (fun a w' hs=>⟨(asks (z+2) B1 B2 B3).length - (k+1),by omega,(n91+1),(k+1),(some ⟨b87,0,none⟩),cR,rfl,by omega,by omega,EP hf (by rw[ha];exact G7.1 h93),hs⟩)
   refine Au 5 0 [1] [[(an 3 9),(oa [.via 0 (i6 0),.via 0 (i6 0),.via 0 (i6 0)]),⟨.seq false,none⟩]] [Qb n91,Qb n91,Qb n91,Old w 0 0 (i6 0),Old w 0 1 (i6 0),Old w 0 2 (i6 0),(((DY c p).e:Int)==(0:Int)&&((((DY c p).Ag.First:Int)==(0:Int)&&(((DY c p).Ag.Second:Int)==(0:Int)&&true))&&true))=false] [(CS z),(V8 z B1 B2 B3 cR b87),(En z B1 B2 B3),(10,Ac k),(6,pt n91),(18,.bool true)] rfl ⟨rfl,rfl,rfl,Aw (hL.2 0 _ rfl),Aw (hL.2 1 _ rfl),Aw (hL.2 2 _ rfl),(Bool.eq_false_iff.2 h93),Ae⟩ ?_
   refine DX 5 [0,1,2,3,4,5,6,7,8,9] [(Ak w),(CZ z c),(DW z),(Dt z c),(TT z B1 B2 B3 cR b87),(caps 3 B1),(caps 3 B2),(caps 3 B3),(Es z n17),(Xg c p n91)] rfl rfl ?_
   refine CU [(0,o0),(1,(a1 9)),(2,o0),(3,(an 2 9)),(4,o0)] [3,22,2] [Qb n91,Qb n91,Qb n91] (D7 5 1) [(CS z),(22,.agg #[i6 ((DY c p).Ag.First),i6 ((DY c p).Ag.Second)]),(2,i6 ((DY c p).e))] ⟨rfl,rfl,rfl,Ae⟩ ?_
   refine Bl 5 ?_
   refine BA (an 2 2) [3,2] [Qb (z+1),Qb (z+1)] [(CS z),(2,i6 ((DY c p).e))] ⟨w,n91+1,[(Ak w),(CZ z c),(qdvx_5 z c p),(Dt z c),(TT z B1 B2 B3 cR b87),(caps 3 B1),(caps 3 B2),(caps 3 B3),(Es z n17),(Xg c p n91)]⟩ [] ⟨rfl,rfl,Ae⟩ (.inl rfl) ?_
   refine DU 6 [0,1,2,3,4,5,6,7,8,9] [(Ak w),(CZ z c),(qdvx_5 z c p),(Dt z c),(TT z B1 B2 B3 cR b87),(caps 3 B1),(caps 3 B2),(caps 3 B3),(Es z n17),(Xg c p n91)] rfl rfl ?_
   refine CO ?_
   refine BK [3,2] [(CS z),(2,i6 ((DY c p).e))] ?_
   refine GG <| Ku <| Az [.at 2,.at 2] [Qb (z+1),Qb (z+1)] (.tuple #[i6 ((DY c p).e),.agg #[i6 ((DY c p).Ag.First),i6 ((DY c p).Ag.Second)]]) ⟨rfl,rfl,Ae⟩ ?_
   intro w94 hw94
   exact⟨congrArg (fun t:Am=>Ending.returned (.tuple #[i6 t.e,.agg #[i6 t.Ag.First,i6 t.Ag.Second]])) ((N7 (xs:=answers c) (k:=k) (by rw[GL];omega) hf (by rw[ha];exact fun x=>h93 (G7.2 x))).trans ha).symm,AA hw94⟩
  have hFr:=Wu hf (by omega)
  have hpf:∀ q,q<c.Aa.xs.length→CP c q=AQ:=fun q hq=>Zag hf hq (by omega)
  refine Lc (base:=z) (e:=109) (sz:=1) (cells:=(fun v:Value=>[v])) (a:=aR) (n:=((asks (z+2) B1 B2 B3).length)) (cap:=cR) (xs:=(asks (z+2) B1 B2 B3)) 4 (by omega) (fun b95 hg96 hb97 => ?_)
  subst hg96
  refine Au 5 1 [] [[(oi k),(oa [.via 4 (.func (.func 74) #[] #[pt (z+2)])]),o0],[o0]] [CW k,k<(asks (z+2) B1 B2 B3).length,Ce,∀ w',Ch.holds (TL z B1 B2 B3 cR b95) w'→w'.cell? ⟨b95,0+k,none⟩=some (.func (.func 74) #[] #[pt (z+2)])] [(CS z),(VC z B1 B2 B3 cR b95),(En z B1 B2 B3),(10,Ac k),(14,.func (.func 74) #[] #[pt (z+2)])] rfl ⟨rfl,(by omega),rfl,Fp (sz:=1) (j:=k) (k:=0) (fun _=>rfl) (by omega) (congrArg some hv),Ae⟩ ?_
  refine AY 74 #[pt (z+2)] (some 15) (.agg (Am.arr (Ir c))) (fun w98 hw98=>q9_calls w98 (hL.ext (hw98.ext rfl)) c (hc.ext (hw98.ext rfl) (fun _ h=>h)) (z+2) (Nh hw98 (i:=3)) hFr hpf) (fun n99 (hn100:n29≤n99) => ?_)
  refine F8 3 0 [] [[o0,(an 3 9)]] [Qb n99,Qb n99,Qb n99] [(CS z),(VC z B1 B2 B3 cR b95),(En z B1 B2 B3),(10,Ac k),(6,pt n99)] ⟨w,n99+1,[(Ak w),(CZ z c),(DW z),(Dt z c),(TL z B1 B2 B3 cR b95),(caps 3 B1),(caps 3 B2),(caps 3 B3),(Es z n17),(Xl c n99)]⟩ rfl ⟨rfl,rfl,rfl,Ae⟩ ?_
  by_cases h101:(((Ir c).e:Int)==(0:Int)&&((((Ir c).Ag.First:Int)==(0:Int)&&(((Ir c).Ag.Second:Int)==(0:Int)&&true))&&true))=true
  ·refine Au 9 0 [0] [[(an 3 9),(oa [.via 0 (i6 0),.via 0 (i6 0),.via 0 (i6 0)]),⟨.seq true,none⟩],[(ov (i6 ((k+1:Nat):Int))),o0]] [Qb n99,Qb n99,Qb n99,Old w 0 0 (i6 0),Old w 0 1 (i6 0),Old w 0 2 (i6 0),(((Ir c).e:Int)==(0:Int)&&((((Ir c).Ag.First:Int)==(0:Int)&&(((Ir c).Ag.Second:Int)==(0:Int)&&true))&&true))=true,Wr ((k:Int)+1) (((k+1:Nat):Int))] [(CS z),(VC z B1 B2 B3 cR b95),(En z B1 B2 B3),(JE k)] rfl ⟨rfl,rfl,rfl,Aw (hL.2 0 _ rfl),Aw (hL.2 1 _ rfl),Aw (hL.2 2 _ rfl),h101,BQ,Ae⟩ ?_
   refine BX [0,1,2,3,4,5,6,7,8] [(Ak w),(CZ z c),(DW z),(Dt z c),(TL z B1 B2 B3 cR b95),(caps 3 B1),(caps 3 B2),(caps 3 B3),(Es z n17)] rfl rfl ?_
   refine BK [3,8,9,10] [(CS z),(VC z B1 B2 B3 cR b95),(En z B1 B2 B3),(JE k)] ?_
   refine BO (fun a w' hs=>⟨(asks (z+2) B1 B2 B3).length - (k+1),by omega,(n99+1),(k+1),(some ⟨b95,0,none⟩),cR,rfl,by omega,by omega,EP hf (by rw[ha];exact G7.1 h101),hs⟩)
  refine Au 5 0 [1] [[(an 3 9),(oa [.via 0 (i6 0),.via 0 (i6 0),.via 0 (i6 0)]),⟨.seq false,none⟩]] [Qb n99,Qb n99,Qb n99,Old w 0 0 (i6 0),Old w 0 1 (i6 0),Old w 0 2 (i6 0),(((Ir c).e:Int)==(0:Int)&&((((Ir c).Ag.First:Int)==(0:Int)&&(((Ir c).Ag.Second:Int)==(0:Int)&&true))&&true))=false] [(CS z),(VC z B1 B2 B3 cR b95),(En z B1 B2 B3),(10,Ac k),(6,pt n99),(18,.bool true)] rfl ⟨rfl,rfl,rfl,Aw (hL.2 0 _ rfl),Aw (hL.2 1 _ rfl),Aw (hL.2 2 _ rfl),(Bool.eq_false_iff.2 h101),Ae⟩ ?_
  refine DX 5 [0,1,2,3,4,5,6,7,8,9] [(Ak w),(CZ z c),(DW z),(Dt z c),(TL z B1 B2 B3 cR b95),(caps 3 B1),(caps 3 B2),(caps 3 B3),(Es z n17),(Xl c n99)] rfl rfl ?_
  refine CU [(0,o0),(1,(a1 9)),(2,o0),(3,(an 2 9)),(4,o0)] [3,22,2] [Qb n99,Qb n99,Qb n99] (D7 5 1) [(CS z),(22,.agg #[i6 ((Ir c).Ag.First),i6 ((Ir c).Ag.Second)]),(2,i6 ((Ir c).e))] ⟨rfl,rfl,rfl,Ae⟩ ?_
  refine Bl 5 ?_
  refine BA (an 2 2) [3,2] [Qb (z+1),Qb (z+1)] [(CS z),(2,i6 ((Ir c).e))] ⟨w,n99+1,[(Ak w),(CZ z c),(qdvx_11 z c),(Dt z c),(TL z B1 B2 B3 cR b95),(caps 3 B1),(caps 3 B2),(caps 3 B3),(Es z n17),(Xl c n99)]⟩ [] ⟨rfl,rfl,Ae⟩ (.inl rfl) ?_
  refine DU 6 [0,1,2,3,4,5,6,7,8,9] [(Ak w),(CZ z c),(qdvx_11 z c),(Dt z c),(TL z B1 B2 B3 cR b95),(caps 3 B1),(caps 3 B2),(caps 3 B3),(Es z n17),(Xl c n99)] rfl rfl ?_
  refine CO ?_
  refine BK [3,2] [(CS z),(2,i6 ((Ir c).e))] ?_
  refine GG <| Ku <| Az [.at 2,.at 2] [Qb (z+1),Qb (z+1)] (.tuple #[i6 ((Ir c).e),.agg #[i6 ((Ir c).Ag.First),i6 ((Ir c).Ag.Second)]]) ⟨rfl,rfl,Ae⟩ ?_
  intro w102 hw102
  exact⟨congrArg (fun t:Am=>Ending.returned (.tuple #[i6 t.e,.agg #[i6 t.Ag.First,i6 t.Ag.Second]])) ((N7 (xs:=answers c) (k:=k) (by rw[GL];omega) hf (by rw[ha];exact fun x=>h101 (G7.2 x))).trans ha).symm,AA hw102⟩
 refine Au 15 0 [0] [[oF],[o0,o0,(an 2 2)]] [BF ((k:Int)<(((asks (z+2) B1 B2 B3).length:Nat):Int)),Qb (z+1),Qb (z+1)] [(CS z),(2,i6 0)] rfl ⟨bf,rfl,rfl,Ae⟩ ?_
 refine Az [.at 2,.at 2] [Qb (z+1),Qb (z+1)] (.tuple #[i6 0,.agg #[i6 0,i6 0]]) ⟨rfl,rfl,Ae⟩ ?_
 intro w103 hw103
 exact⟨congrArg (fun t:Am=>Ending.returned (.tuple #[i6 t.e,.agg #[i6 t.Ag.First,i6 t.Ag.Second]])) (Zl (xs:=answers c) (fun i hi=>hf i (by rw[GL]at hi;omega))).symm,AA hw103⟩
theorem Q5{α:Type}[Inhabited α]{A:AW}{w:World}(h:Sat A w){cells:α→List Value}{sz:Nat}{ok:(Nat→Prop)→World→α→Prop}(hsz:∀ x,(cells x).length=sz){i b:Nat}{t:TypeId}{cs:Array Value}(xs:List α)(hok:∀ i,i<xs.length→ok Any w (gd xs i))(hi:A.σ[i]? = some (.blk b (.cells cs t (0,0)) true):=by rfl)(hx:xs.flatMap cells=cs.toList:=by rfl)(hl:cs.size=xs.length*sz:=by rfl)(hm:Nat.ble xs.length 1000=true:=by rfl):La cells sz ok Any w ⟨some ⟨b,0,none⟩,xs.length,xs⟩:=by
 have hle:=Nat.le_of_ble_eq_true hm
 have h1:=h.Zd hi hx hl (Nat.zero_le b) (Nat.le_trans hle (by decide))
 have hlt:i<A.σ.length:=(List.getElem?_eq_some_iff.1 hi).1
 have h0:w.ownsRow 0 t sz (.slice (some ⟨b,0,none⟩) xs.length xs.length) xs.length (xs.flatMap cells):=h1.at (i:=i) (c:=Cm 0 t sz cells (.slice (some ⟨b,0,none⟩) xs.length xs.length) xs) (by show(A.σ.set i _)[i]? = _;rw[List.getElem?_set_self hlt])
 have h2:=Sv (cells:=cells) (sz:=sz) hsz h0 (Nat.le_trans hle (by decide))
 refine⟨⟨h2.len,h2.le,fun hne => ?_⟩,hok⟩
 obtain⟨b',off,ha, -,hh⟩:=h2.cells hne
 exact⟨b',off,ha,Ae,hh⟩
theorem Su{α:Type}[Inhabited α]{p:α→Prop}:∀ i,i<([]:List α).length→p (gd [] i):=fun i hi=>absurd hi (Nat.not_lt_zero i)
theorem Qx{α:Type}[Inhabited α]{p:α→Prop}{x:α}{r:List α}(h:p x)(hr:∀ i,i<r.length→p (gd r i)):∀ i,i<(x :: r).length→p (gd (x :: r) i)
 | 0,_=>h
 | i+1,hi=>hr i (by simpa using hi)
theorem Ha{n:Int}(h1:(-9223372036854775808:Int)≤n:=by decide)(h2:n≤9223372036854775807:=by decide):IC .i64 n:=⟨h1,h2⟩
theorem check_at(w:World)(hL:Jm w)(c:Ai)(hc:Ai.ok Any w c)(hS:c.Aa.xs.length+c.Aj.xs.length+c.AX.xs.length≤15000000000000)(n:Int)(hn:(EI c).e=n):Calls Tryd.prog 17 #[.agg (Ai.arr c)] w fun e w'=>∃ W:JK,e = .returned (.tuple #[.int .i64 n,.agg (JK.arr W)])∧CE (fun _=>False) w w':=by
 subst hn
 exact(Yb w hL c hc hS).mono fun e w' h=>⟨_,h.1,h.2⟩
end Go.Proofs.YtjdmhijaanmccaaDoor.Ad
namespace Go.Proofs.YtjdmhijaanmccaaDoor.Eng
open Go Go.Proofs.YtjdmhijaanmccaaDoor.Mem Go.ChangeShapes Go.WideShapes Go.Deep
set_option linter.unusedSimpArgs false
set_option linter.unusedVariables false
section
variable {P:Program}{t:TypeId}
theorem Qn{α:Type}[Inhabited α]{cells:α→List Value}{ok:(Nat→Prop)→World→α→Prop}{e:TypeId}{sz:Nat}(ht:P.underlying t=some (.slice e))(hc:P.cellsOf e=sz)(hsz:∀ x,(cells x).length=sz)(hs0:0<sz)(hpos:Nat.blt 0 (P.bytesOf e)=true)(h:Rd P e cells ok) :
   Rd P t (fun s:Sl α=>[s.val]) (fun F W s=>La cells sz ok F W s∧s.xs.length*P.bytesOf e≤reachBytes):=by
 intro H enc W fuel cs x hx hw
 rcases open_slice ht hx with⟨rfl,rfl⟩ | ⟨a,len,cap,m,n,D,Pl,rfl,hb,hl,hm,hmm,rfl,hi⟩
 · exact⟨⟨none,0,[]⟩,rfl,⟨⟨Nat.zero_le _,Nat.le_refl _,fun h=>absurd rfl h⟩,fun i hi=>absurd hi (Nat.not_lt_zero i)⟩,by simp⟩
 · simp only[if_true]at hmm
   subst hmm
   rw[hc]at hi
   have hww:∀ q∈DataW.weightsAll P e ((List.range len).map D),q≤reachBytes:=fun q hq=>hw q (by simp only[DataW.weights,ht,List.mem_cons,List.mem_append];exact .inr (.inl hq))
   have hY:∀ i,i<len→∃ y:α,(W.cells? 0 (a.add (i*sz)) sz=some (cells y))∧ok Any W y:=by
     intro i hi'
     obtain⟨cs',h1,h2⟩:=hi i (by omega)
     obtain⟨y,rfl,hy⟩:=h H enc W n cs' _ h2 (fun q hq=>hww q (weightsAll_mem (d:=D i) (List.mem_map_of_mem (List.mem_range.2 hi')) q hq))
     exact⟨y,h1,hy⟩
   obtain⟨Y,hY⟩:=choose_lt hY
   have hbig:(len+(m - len))*P.bytesOf e≤reachBytes:=hw _ (by simp[DataW.weights,ht])
   have hlen:len+(m - len)≤140737488351232:=Nat.le_trans (Nat.le_mul_of_pos_right _ (by simpa using hpos)) hbig
   have hg:∀ i,i<len→gd ((List.range len).map Y) i=Y i:=fun i hi'=>by rw[Gv (by simpa using hi')];simp
   refine⟨⟨some a,m,(List.range len).map Y⟩,by simp[Sl.val],⟨⟨by simp;omega,by simpa using hl,fun hne => ?_⟩,fun i hi' => ?_⟩,Nat.le_trans (Nat.mul_le_mul_right _ (by simp)) hbig⟩
   · have h0:0<len:=by
       rcases Nat.eq_zero_or_pos len with h | h
       · subst h;exact absurd rfl hne
       · exact h
     have hsp:a.spot=none:=by
       obtain⟨-, -,h3⟩:=World.cells?_some (hY 0 h0).1
       have h4:=h3 0 hs0
       rw[List.getElem?_eq_getElem (by rw[hsz];exact hs0)]at h4
       have:=World.cell?_spot h4
       simpa[Addr.add]using this
     obtain⟨b,off,sp⟩:=a
     simp only at hsp;subst hsp
     refine⟨b,off,rfl,Ae,fun i hi' k v hv => ?_⟩
     have hi2:i<len:=by simpa using hi'
     obtain⟨-, -,h3⟩:=World.cells?_some (hY i hi2).1
     have hv':(cells (Y i))[k]? = some v:=by simpa using hv
     have hk:k<sz:=by rw[←hsz (Y i)];exact(List.getElem?_eq_some_iff.1 hv').1
     have:=h3 k hk
     rw[hv']at this
     rw[OW]
     have e1:(⟨b,off,none⟩:Addr).add (i*sz)=⟨b,off+i*sz,none⟩:=Px rfl _
     have e2:(⟨b,off+i*sz,none⟩:Addr).add k=⟨b,off+i*sz+k,none⟩:=Px rfl _
     rw[e1,e2]at this
     exact this
   · have hi2:i<len:=by simpa using hi'
     rw[hg i hi2];exact(hY i hi2).2
end
end Go.Proofs.YtjdmhijaanmccaaDoor.Eng
namespace Go.Proofs.YtjdmhijaanmccaaDoor.Ad
open Go Go.Proofs.YtjdmhijaanmccaaDoor.Eng Go.Proofs.YtjdmhijaanmccaaDoor.Mem Go.Proofs.YtjdmhijaanmccaaDoor.Ly
set_option linter.unusedSimpArgs false
set_option linter.unusedVariables false
set_option maxRecDepth 100000
structure Lim(c:Ai):Prop where
 cl:c.AX.xs.length*24≤140737488351232
 pl:c.Aa.xs.length*104≤140737488351232
 hl:c.Aj.xs.length*24≤140737488351232
 ws:∀ i,i<c.AX.xs.length→(gd c.AX.xs i).xs.length*24≤140737488351232
 rs:∀ i,i<c.Aa.xs.length→(gd c.Aa.xs i).Ah.xs.length*32≤140737488351232
 qs:∀ i,i<c.Aa.xs.length→(gd c.Aa.xs i).Ap.xs.length*16≤140737488351232
open Go.ChangeShapes Go.WideShapes Go.Deep
theorem rd_TWindow:Rd Tryd.prog 101 Cf.cells Cf.ok:=by
 intro H enc W fuel cs x hx hw
 obtain⟨xs,n, -,rfl,hl,hlen,hf⟩:=DataW.trod_struct Tryd.underlying101 hx
 rw[show Tryd.prog.cellsOf 101=3 from by kernel_rfl]at hl
 match cs,hl with
 | [c0,c1,c2],_ =>
  obtain⟨y0,e0,k0⟩:=Gx Tryd.underlying101 hlen hf hw 0 0 1 _ rfl rfl (by kernel_rfl) (JZ Tryd.underlying3)
  have g0:[c0]=_:=e0
  simp only[List.cons.injEq,and_true]at g0
  subst g0
  obtain⟨y1,e1,k1⟩:=Gx Tryd.underlying101 hlen hf hw 1 1 1 _ rfl rfl (by kernel_rfl) (JZ Tryd.underlying3)
  have g1:[c1]=_:=e1
  simp only[List.cons.injEq,and_true]at g1
  subst g1
  obtain⟨y2,e2,k2⟩:=Gx Tryd.underlying101 hlen hf hw 2 2 1 _ rfl rfl (by kernel_rfl) (JZ Tryd.underlying3)
  have g2:[c2]=_:=e2
  simp only[List.cons.injEq,and_true]at g2
  subst g2
  exact⟨⟨y0,y1,y2⟩,rfl,⟨k0,k1,k2⟩⟩
theorem rd_TRegion:Rd Tryd.prog 103 BB.cells BB.ok:=by
 intro H enc W fuel cs x hx hw
 obtain⟨xs,n, -,rfl,hl,hlen,hf⟩:=DataW.trod_struct Tryd.underlying103 hx
 rw[show Tryd.prog.cellsOf 103=4 from by kernel_rfl]at hl
 match cs,hl with
 | [c0,c1,c2,c3],_ =>
  obtain⟨y0,e0,k0⟩:=Gx Tryd.underlying103 hlen hf hw 0 0 1 _ rfl rfl (by kernel_rfl) (JZ Tryd.underlying3)
  have g0:[c0]=_:=e0
  simp only[List.cons.injEq,and_true]at g0
  subst g0
  obtain⟨y1,e1,k1⟩:=Gx Tryd.underlying103 hlen hf hw 1 1 1 _ rfl rfl (by kernel_rfl) (JZ Tryd.underlying3)
  have g1:[c1]=_:=e1
  simp only[List.cons.injEq,and_true]at g1
  subst g1
  obtain⟨y2,e2,k2⟩:=Gx Tryd.underlying103 hlen hf hw 2 2 1 _ rfl rfl (by kernel_rfl) (JZ Tryd.underlying3)
  have g2:[c2]=_:=e2
  simp only[List.cons.injEq,and_true]at g2
  subst g2
  obtain⟨y3,e3,k3⟩:=Gx Tryd.underlying103 hlen hf hw 3 3 1 _ rfl rfl (by kernel_rfl) (JZ Tryd.underlying3)
  have g3:[c3]=_:=e3
  simp only[List.cons.injEq,and_true]at g3
  subst g3
  exact⟨⟨y0,y1,y2,y3⟩,rfl,⟨k0,k1,k2,k3⟩⟩
theorem rd_TPort:Rd Tryd.prog 127 Ed.cells Ed.ok:=by
 intro H enc W fuel cs x hx hw
 obtain⟨xs,n, -,rfl,hl,hlen,hf⟩:=DataW.trod_struct Tryd.underlying127 hx
 rw[show Tryd.prog.cellsOf 127=2 from by kernel_rfl]at hl
 match cs,hl with
 | [c0,c1],_ =>
  obtain⟨y0,e0,k0⟩:=Gx Tryd.underlying127 hlen hf hw 0 0 1 _ rfl rfl (by kernel_rfl) (JZ Tryd.underlying3)
  have g0:[c0]=_:=e0
  simp only[List.cons.injEq,and_true]at g0
  subst g0
  obtain⟨y1,e1,k1⟩:=Gx Tryd.underlying127 hlen hf hw 1 1 1 _ rfl rfl (by kernel_rfl) (rd_bool Tryd.underlying4)
  have g1:[c1]=_:=e1
  simp only[List.cons.injEq,and_true]at g1
  subst g1
  exact⟨⟨y0,y1⟩,rfl,⟨k0,k1⟩⟩
theorem rd_TChannel:Rd Tryd.prog 115 AZ.cells AZ.ok:=by
 intro H enc W fuel cs x hx hw
 obtain⟨xs,n, -,rfl,hl,hlen,hf⟩:=DataW.trod_struct Tryd.underlying115 hx
 rw[show Tryd.prog.cellsOf 115=3 from by kernel_rfl]at hl
 match cs,hl with
 | [c0,c1,c2],_ =>
  obtain⟨y0,e0,k0⟩:=Gx Tryd.underlying115 hlen hf hw 0 0 1 _ rfl rfl (by kernel_rfl) (JZ Tryd.underlying3)
  have g0:[c0]=_:=e0
  simp only[List.cons.injEq,and_true]at g0
  subst g0
  obtain⟨y1,e1,k1⟩:=Gx Tryd.underlying115 hlen hf hw 1 1 1 _ rfl rfl (by kernel_rfl) (JZ Tryd.underlying3)
  have g1:[c1]=_:=e1
  simp only[List.cons.injEq,and_true]at g1
  subst g1
  obtain⟨y2,e2,k2⟩:=Gx Tryd.underlying115 hlen hf hw 2 2 1 _ rfl rfl (by kernel_rfl) (JZ Tryd.underlying3)
  have g2:[c2]=_:=e2
  simp only[List.cons.injEq,and_true]at g2
  subst g2
  exact⟨⟨y0,y1,y2⟩,rfl,⟨k0,k1,k2⟩⟩
theorem rd_PartB:Rd Tryd.prog 52 Ar.cells (fun F W x=>Ar.ok F W x∧x.Ah.xs.length*Tryd.prog.bytesOf 103≤reachBytes∧x.Ap.xs.length*Tryd.prog.bytesOf 127≤reachBytes):=by
 intro H enc W fuel cs x hx hw
 obtain⟨xs,n, -,rfl,hl,hlen,hf⟩:=DataW.trod_struct Tryd.underlying52 hx
 rw[show Tryd.prog.cellsOf 52=8 from by kernel_rfl]at hl
 match cs,hl with
 | [c0,c1,c2,c3,c4,c5,c6,c7],_ =>
  obtain⟨y0,e0,k0⟩:=Gx Tryd.underlying52 hlen hf hw 0 0 1 _ rfl rfl (by kernel_rfl) (rd_string Tryd.underlying9)
  have g0:[c0]=_:=e0
  simp only[List.cons.injEq,and_true]at g0
  subst g0
  obtain⟨y1,e1,k1⟩:=Gx Tryd.underlying52 hlen hf hw 1 1 1 _ rfl rfl (by kernel_rfl) (JZ Tryd.underlying3)
  have g1:[c1]=_:=e1
  simp only[List.cons.injEq,and_true]at g1
  subst g1
  obtain⟨y2,e2,k2⟩:=Gx Tryd.underlying52 hlen hf hw 2 2 1 _ rfl rfl (by kernel_rfl) (JZ Tryd.underlying3)
  have g2:[c2]=_:=e2
  simp only[List.cons.injEq,and_true]at g2
  subst g2
  obtain⟨y3,e3,k3⟩:=Gx Tryd.underlying52 hlen hf hw 3 3 1 _ rfl rfl (by kernel_rfl) (JZ Tryd.underlying3)
  have g3:[c3]=_:=e3
  simp only[List.cons.injEq,and_true]at g3
  subst g3
  obtain⟨y4,e4,k4⟩:=Gx Tryd.underlying52 hlen hf hw 4 4 1 _ rfl rfl (by kernel_rfl) (JZ Tryd.underlying3)
  have g4:[c4]=_:=e4
  simp only[List.cons.injEq,and_true]at g4
  subst g4
  obtain⟨y5,e5,k5⟩:=Gx Tryd.underlying52 hlen hf hw 5 5 1 _ rfl rfl (by kernel_rfl) (JZ Tryd.underlying3)
  have g5:[c5]=_:=e5
  simp only[List.cons.injEq,and_true]at g5
  subst g5
  obtain⟨y6,e6,k6⟩:=Gx Tryd.underlying52 hlen hf hw 6 6 1 _ rfl rfl (by kernel_rfl) (Qn (cells:=BB.cells) (sz:=4) Tryd.underlying49 (by kernel_rfl) (fun _=>rfl) (by decide) (by kernel_rfl) rd_TRegion)
  have g6:[c6]=_:=e6
  simp only[List.cons.injEq,and_true]at g6
  subst g6
  obtain⟨y7,e7,k7⟩:=Gx Tryd.underlying52 hlen hf hw 7 7 1 _ rfl rfl (by kernel_rfl) (Qn (cells:=Ed.cells) (sz:=2) Tryd.underlying50 (by kernel_rfl) (fun _=>rfl) (by decide) (by kernel_rfl) rd_TPort)
  have g7:[c7]=_:=e7
  simp only[List.cons.injEq,and_true]at g7
  subst g7
  exact⟨⟨y0,y1,y2,y3,y4,y5,y6,y7⟩,rfl,⟨⟨k0,k1,k2,k3,k4,k5,k6.1,k7.1⟩,k6.2,k7.2⟩⟩
theorem rd_Conf:Rd Tryd.prog 26 Ai.cells (fun F W x=>Ai.ok F W x∧Lim x):=by
 intro H enc W fuel cs x hx hw
 obtain⟨xs,n, -,rfl,hl,hlen,hf⟩:=DataW.trod_struct Tryd.underlying26 hx
 rw[show Tryd.prog.cellsOf 26=7 from by kernel_rfl]at hl
 match cs,hl with
 | [c0,c1,c2,c3,c4,c5,c6],_ =>
  obtain⟨y0,e0,k0⟩:=Gx Tryd.underlying26 hlen hf hw 0 0 1 _ rfl rfl (by kernel_rfl) (JZ Tryd.underlying3)
  have g0:[c0]=_:=e0
  simp only[List.cons.injEq,and_true]at g0
  subst g0
  obtain⟨y1,e1,k1⟩:=Gx Tryd.underlying26 hlen hf hw 1 1 1 _ rfl rfl (by kernel_rfl) (JZ Tryd.underlying3)
  have g1:[c1]=_:=e1
  simp only[List.cons.injEq,and_true]at g1
  subst g1
  obtain⟨y2,e2,k2⟩:=Gx Tryd.underlying26 hlen hf hw 2 2 1 _ rfl rfl (by kernel_rfl) (JZ Tryd.underlying3)
  have g2:[c2]=_:=e2
  simp only[List.cons.injEq,and_true]at g2
  subst g2
  obtain⟨y3,e3,k3⟩:=Gx Tryd.underlying26 hlen hf hw 3 3 1 _ rfl rfl (by kernel_rfl) (JZ Tryd.underlying3)
  have g3:[c3]=_:=e3
  simp only[List.cons.injEq,and_true]at g3
  subst g3
  obtain⟨y4,e4,k4⟩:=Gx Tryd.underlying26 hlen hf hw 4 4 1 _ rfl rfl (by kernel_rfl) (Qn (cells:=(fun x:Sl Cf=>[Sl.val x])) (sz:=1) Tryd.underlying22 (by kernel_rfl) (fun _=>rfl) (by decide) (by kernel_rfl) (Qn (cells:=Cf.cells) (sz:=3) Tryd.underlying65 (by kernel_rfl) (fun _=>rfl) (by decide) (by kernel_rfl) rd_TWindow))
  have g4:[c4]=_:=e4
  simp only[List.cons.injEq,and_true]at g4
  subst g4
  obtain⟨y5,e5,k5⟩:=Gx Tryd.underlying26 hlen hf hw 5 5 1 _ rfl rfl (by kernel_rfl) (Qn (cells:=Ar.cells) (sz:=8) Tryd.underlying23 (by kernel_rfl) (fun _=>rfl) (by decide) (by kernel_rfl) rd_PartB)
  have g5:[c5]=_:=e5
  simp only[List.cons.injEq,and_true]at g5
  subst g5
  obtain⟨y6,e6,k6⟩:=Gx Tryd.underlying26 hlen hf hw 6 6 1 _ rfl rfl (by kernel_rfl) (Qn (cells:=AZ.cells) (sz:=3) Tryd.underlying24 (by kernel_rfl) (fun _=>rfl) (by decide) (by kernel_rfl) rd_TChannel)
  have g6:[c6]=_:=e6
  simp only[List.cons.injEq,and_true]at g6
  subst g6
  exact⟨⟨y0,y1,y2,y3,y4,y5,y6⟩,rfl,⟨⟨k0,k1,k2,k3,⟨k4.1.1,fun i hi=>(k4.1.2 i hi).1⟩,⟨k5.1.1,fun i hi=>(k5.1.2 i hi).1⟩,k6.1⟩,⟨by have h:=k4.2;rw[(show Tryd.prog.bytesOf 65=24 from by kernel_rfl)]at h;exact h,by have h:=k5.2;rw[(show Tryd.prog.bytesOf 52=104 from by kernel_rfl)]at h;exact h,by have h:=k6.2;rw[(show Tryd.prog.bytesOf 115=24 from by kernel_rfl)]at h;exact h,fun i hi=>by have h:=(k4.1.2 i hi).2;rw[(show Tryd.prog.bytesOf 101=24 from by kernel_rfl)]at h;exact h,fun i hi=>by have h:=(k5.1.2 i hi).2.1;rw[(show Tryd.prog.bytesOf 103=32 from by kernel_rfl)]at h;exact h,fun i hi=>by have h:=(k5.1.2 i hi).2.2;rw[(show Tryd.prog.bytesOf 127=16 from by kernel_rfl)]at h;exact h⟩⟩⟩
theorem Lim.sum{c:Ai}(h:Lim c):c.Aa.xs.length+c.Aj.xs.length+c.AX.xs.length≤15000000000000:=by
 have h1:=h.cl;have h2:=h.pl;have h3:=h.hl
 omega
end Go.Proofs.YtjdmhijaanmccaaDoor.Ad
namespace Go.Proofs.YtjdmhijaanmccaaDoor.Eng
open Go Go.Proofs.YtjdmhijaanmccaaDoor.Mem
set_option linter.unusedSimpArgs false
set_option linter.unusedVariables false
section
variable {P:Program}{N:Nat}{env:Env}{ds:List Deferred}{A:AW}{ops:Array Oper}{l:List Oper}{s:List Kt}{Q:Exit→Act→World→Prop}
def ZQ(o:Oper):Option (Operand×TypeId):=match o.op with
 | .call c=>match c.callee,c.args.toList,c.argTypes.toList with
  | .builtin .clear,[x],[t]=>some (x,t)
  | _,_,_=>none
 | _=>none
theorem clearOf_spec{o:Oper}{x:Operand}{t:TypeId}(h:ZQ o=some (x,t)):o.op = .call { callee:= .builtin .clear,args:= #[x],argTypes:= #[t] }:=by
 unfold ZQ at h
 split at h
 ·rename_i c hop
  split at h
  ·rename_i x' t' h1 h2 h3
   simp only[Option.some.injEq,Prod.mk.injEq]at h
   obtain⟨rfl,rfl⟩:=h
   obtain⟨c1,c2,c3⟩:=c
   simp only at h1 h2 h3
   rw[hop,h1]
   congr 2
   ·apply Array.ext';rw[h2]
   apply Array.ext';rw[h3]
  cases h
 cases h
def clearA(P:Program)(N:Nat)(ops:Array Oper)(env:Env)(o:Oper):Option (TypeId×Nat×Value×Nat×Nat×Nat):=match ZQ o,NJ ops env o,Ld env o,Np N o.dst with
 | some (x,t),some true,true,true=>match P.underlying t,IE env x with
  | some (.slice e),.slice (some ⟨g,0,none⟩) n c=>match P.info? e with
   | some f=>match f.zero with
    | some z=>match Nat.beq z.cells.size f.size&&Nat.blt 0 f.size with
     | true=>some (e,f.size,z,g,n,c)
     | false=>none
    | none=>none
   | none=>none
  | _,_=>none
 | _,_,_,_=>none
theorem run_clear{P:Program}(w:World)(t ty elem:TypeId)(g n cap:Nat)(z:Value)(f:TypeInfo)(cur:Array Value)(te:TypeId)
   (hu:P.underlying t=some (.slice elem)) (hf:P.info? elem=some f) (hz:f.zero=some z) (hg:w.heap[g]? = some (.cells cur te (0,0))) (hfit:n*z.cells.size≤cur.size) (h1:∀ v∈z.cells.toList,v.oneCell'=true) (hp:0<z.cells.size) :
   (Builtin.clear_ #[t] ty #[.slice (some ⟨g,0,none⟩) n cap]).run P w =
     .ok (.tuple #[]) (w.setRow g (((List.replicate n z.cells.toList).flatten)++cur.toList.drop (n*z.cells.size)).toArray):=by
 have hfl:=WJ hp n
 have hzc:(Builtin.zeroCells z.cells n).toList=(List.replicate n z.cells.toList).flatten:=hfl
 by_cases h0:n=0
 · subst h0
   simp only[Builtin.clear_,List.getElem?_toArray,List.getElem?_cons_zero,run_underlying hu,Sem.run_bind,Sem.run_pure,Result.andThen_ok]
   simp[Sem.run,setRow_self w g cur te (0,0) hg]
 · have hlen:((List.replicate n z.cells.toList).flatten).length=n*z.cells.size:=by simp
   have hst:=run_storeCells_at P g 0 te ((List.replicate n z.cells.toList).flatten) 0 cur w hg (by rw[hlen];omega) (fun v hv=>by
     obtain⟨l,hl,hv⟩:=List.mem_flatten.1 hv
     rw[List.eq_of_mem_replicate hl]at hv
     exact h1 v hv)
   rw[hlen]at hst
   simp only[Nat.zero_add,List.take_zero,List.nil_append]at hst
   obtain⟨m,rfl⟩:=Nat.exists_eq_succ_of_ne_zero h0
   simp[Builtin.clear_,run_underlying hu,zeroValue,typeInfo,hf,hz,hzc,hst]
theorem clear_run{α:Type}{base:Nat}{o:Oper}{e:TypeId}{sz g n c':Nat}{z:Value}(h:clearA P N ops env o=some (e,sz,z,g,n,c')){i:Nat}{cells:α→List Value}{xs:List α}{zt:α}{a:Act}{w:World}(hst:St N env ds A a w)
   (hi:A.σ[i]? = some (Cm base e sz cells (.slice (some ⟨g,0,none⟩) n c') xs)) (hz:z.cells.toList=cells zt) (h1:∀ u∈cells zt,u.oneCell'=true) (hx:xs=List.replicate n zt) :
   Region.wanted o (yielded ops a.tmps)=true∧Np N o.dst=true∧(execOp a.eval o).run P w = .ok (.value (.tuple #[])) w:=by
 unfold clearA at h
 split at h
 · rename_i x t hop0 hw hk hd0
   have hop:=clearOf_spec hop0
   split at h
   · rename_i e' g' n' c2 ht hxv
     split at h
     · rename_i f hf
       split at h
       · rename_i z' hz'
         split at h
         · rename_i hsz
           simp only[Option.some.injEq,Prod.mk.injEq]at h
           obtain⟨rfl,rfl,rfl,rfl,rfl,rfl⟩:=h
           rw[Bool.and_eq_true]at hsz
           have hs1:=Nat.eq_of_beq_eq_true hsz.1
           have hs2:0<f.size:=by simpa using hsz.2
           refine⟨G6 hw hst,hd0, ?_⟩
           rw[IY hst hk]
           subst hx
           have hown:w.ownsRow base e' f.size (.slice (some ⟨g',0,none⟩) n' c2) (List.replicate n' zt).length ((List.replicate n' zt).flatMap cells):=hst.mem.at hi
           rw[List.length_replicate]at hown
           rcases hown.2 with⟨h2,h3⟩ | ⟨g2,cap2,cur,h2,hbg,hg,hnc,hcm,hcs,htake⟩
           · cases h2
           · cases h2
             have hms:n' * f.size≤cur.size:=by rw[hcs];exact Nat.mul_le_mul_right _ hnc
             have hr:=run_clear (P:=P) w t o.type e' g' n' c2 z' f cur e' ht hf hz' hg (by rw[hs1];exact hms) (fun v hv=>h1 v (by rw[←hz];exact hv)) (by rw[hs1];exact hs2)
             have hsame:((List.replicate n' z'.cells.toList).flatten++cur.toList.drop (n' * z'.cells.size)).toArray=cur:=by
               rw[hz,Yn,←htake,hs1,List.take_append_drop]
             rw[hsame,setRow_self w g' cur e' (0,0) hg]at hr
             unfold execOp
             simp only[hop,resolve,invoke,builtin,Sem.run_bind,Sem.run_pure,Result.andThen_ok,List.map_toArray,List.map_cons,List.map_nil,hxv,hr]
         · cases h
       · cases h
     · cases h
   · cases h
 · cases h
theorem l_clear{α:Type}(base i:Nat)(xs:List α)(zt:α)(cells:α→List Value)(e:TypeId)(sz g n c':Nat)(z:Value)(d:Option Nat)(hx:xs=List.replicate n zt)
   (K:Lg P N (Io env d (.tuple #[])) ds A ops (l.drop 1) s Q)
   (h:(match l with | o :: _=>(clearA P N ops env o).map (fun x=>(x,o.dst)) | []=>none)=some ((e,sz,z,g,n,c'),d):=by as_aux_lemma=>kernel_rfl) (hi:A.σ[i]? = some (Cm base e sz cells (.slice (some ⟨g,0,none⟩) n c') xs):=by rfl) (hz:z.cells.toList=cells zt:=by rfl) (h1:(cells zt).all Value.oneCell'=true:=by rfl):Lg P N env ds A ops l s Q:=by
 intro a w hst
 cases l with
 | nil=>cases h
 | cons o l =>
   simp only[Option.map_eq_some_iff]at h
   obtain⟨y,hy,h⟩:=h
   simp only[Prod.mk.injEq]at h
   obtain⟨rfl,rfl⟩:=h
   obtain⟨hw,hdst,hr⟩:=clear_run (xs:=xs) hy hst hi hz (fun u hu=>List.all_eq_true.1 h1 u hu) hx
   refine OT hw (.inl hr) ?_
   exact K _ _ (hst.put hst.mem _ hdst _)
end
section
variable {P:Program}{N:Nat}{env:Env}{ds:List Deferred}{A:AW}{s:List Kt}{Q:Exit→Act→World→Prop}
theorem Ym{c:Code}(n:Nat)(h:G P N env ds A c (.inv (Code.rounds P c (QQ P s Q) n) :: s) Q):G P N env ds A (.loop c) s Q :=
 fun a w hs=>wp_loop_rounds (n+1) (h a w hs)
theorem Yl{c:Code}{n:Nat}(h:G P N env ds A c (.inv (Code.rounds P c (QQ P s Q) n) :: s) Q):E P N env ds A .normal (.inv (Code.rounds P c (QQ P s Q) (n+1)) :: s) Q :=
 fun a w hs=>h a w hs
end
end Go.Proofs.YtjdmhijaanmccaaDoor.Eng
namespace Go.Proofs.YtjdmhijaanmccaaDoor.Dv
open Go Go.Proofs.YtjdmhijaanmccaaDoor.Eng Go.Proofs.YtjdmhijaanmccaaDoor.Mem Go.Proofs.YtjdmhijaanmccaaDoor.Ly Go.Proofs.YtjdmhijaanmccaaDoor.Ad
set_option linter.unusedSimpArgs false
set_option linter.unusedVariables false
set_option maxRecDepth 100000
section
variable (z:Nat)(c:Ai)
abbrev QY:=bk z (Ai.arr c) 26
end
theorem vast_calls(w:World)(c:Ai)(hc:Ai.ok Any w c):Calls Tryd.prog 6 #[.agg (Ai.arr c)] w fun e w'=>∃ b:Bool,e = .returned (.bool b)∧CE (fun _=>False) w w':=by
 obtain⟨z,hz⟩:∃ z,z=w.heap.size:=⟨_,rfl⟩
 refine Cb (args:=[.agg (Ai.arr c)]) 66 ⟨w,z,[(Ak w)]⟩ Tryd.func6 rfl (by kernel_rfl) (by kernel_rfl) (Em hz) ?_
 have hb1:=hc.AX.1.len;have hb2:=hc.Aa.1.len;have hb3:=hc.Aj.1.len
 refine DI [0] [(0,.agg (Ai.arr c))] ?_
 refine q_c 14 0 [] [[o0,o0],[o0,(a1 1),o0,o0,(a1 1),o0,(ov (i6 ((c.AX.xs.length+c.Aa.xs.length:Nat):Int))),o0,(a1 1),o0,(ov (i6 (((c.AX.xs.length+c.Aa.xs.length)+c.Aj.xs.length:Nat):Int))),o0],[o0]] [Qb z,Qb z,Wr ((c.AX.xs.length:Int)+(c.Aa.xs.length:Int)) (((c.AX.xs.length+c.Aa.xs.length:Nat):Int)),Qb z,Wr ((((c.AX.xs.length+c.Aa.xs.length:Nat):Int):Int)+(c.Aj.xs.length:Int)) ((((c.AX.xs.length+c.Aa.xs.length)+c.Aj.xs.length:Nat):Int))] [(1,pt z),(3,i6 (((c.AX.xs.length+c.Aa.xs.length)+c.Aj.xs.length:Nat):Int)),(4,i6 0)] ⟨w,z+1,[(Ak w),(QY z c)]⟩ rfl ⟨rfl,rfl,BQ,rfl,BQ,Ae⟩ ?_
 refine Du (fun m a w'=>∃ (n2:Nat) (i:Nat) (lf:Nat),m=c.AX.xs.length - i∧z+1≤n2∧(i≤c.AX.xs.length)∧(lf≤422214612537343)∧St 66 [(1,pt z),(3,Ac lf),(4,Ac i)] [] ⟨w,n2,[(Ak w),(QY z c)]⟩ a w') (c.AX.xs.length - 0) ?_ ?_
 ·intro a w' hs;exact⟨(z+1),0,(c.AX.xs.length+c.Aa.xs.length+c.Aj.xs.length),rfl,Nat.le_refl _,Nat.zero_le _,by omega,hs⟩
 rintro m a w' ⟨n2,i,lf,rfl,hn1,hki,hlf,hs⟩
 refine(?_:G Tryd.prog 66 [(1,pt z),(3,Ac lf),(4,Ac i)] [] ⟨w,n2,[(Ak w),(QY z c)]⟩ _ _ _) a w' hs
 clear hs a w'
 refine CB <| CB ?_
 by_cases h3:(i:Int)<(c.AX.xs.length:Int)
 ·by_cases h4:(2147483647:Int)<(lf:Int)
  ·refine Au 15 0 [0] [[o0,o0,(a1 1),o0,oT,o0,o0,oF,o0],[o0]] [Qb z,BT ((i:Int)<(c.AX.xs.length:Int)),BF ((lf:Int)≤2147483647)] [(1,pt z),(3,Ac lf),(5,i6 0)] rfl ⟨rfl,bt,bf,Ae⟩ ?_
   refine Du (fun m a w'=>∃ (n6:Nat) (p:Nat) (lg:Nat),m=c.Aa.xs.length - p∧n2≤n6∧(p≤c.Aa.xs.length)∧(lg≤422214612537343)∧St 66 [(1,pt z),(3,Ac lg),(5,Ac p)] [] ⟨w,n6,[(Ak w),(QY z c)]⟩ a w') (c.Aa.xs.length - 0) ?_ ?_
   ·intro a w' hs;exact⟨n2,0,lf,rfl,Nat.le_refl _,Nat.zero_le _,by omega,hs⟩
   rintro m a w' ⟨n6,p,lg,rfl,hn5,hkp,hlg,hs⟩
   refine(?_:G Tryd.prog 66 [(1,pt z),(3,Ac lg),(5,Ac p)] [] ⟨w,n6,[(Ak w),(QY z c)]⟩ _ _ _) a w' hs
   clear hs a w'
   refine CB <| CB ?_
   by_cases h7:(p:Int)<(c.Aa.xs.length:Int)
   ·by_cases h8:(2147483647:Int)<(lg:Int)
    ·refine Au 14 0 [0] [[o0,o0,(a1 1),o0,oT,o0,o0,oF,o0],[o0,oT,o0]] [Qb z,BT ((p:Int)<(c.Aa.xs.length:Int)),BF ((lg:Int)≤2147483647),BT ((lg:Int) > 2147483647)] [(2,.bool true)] rfl ⟨rfl,bt,bf,bt,Ae⟩ ?_
     refine Az [] [] (.bool true) Ae ?_
     intro w9 hw9
     exact⟨_,rfl,AA hw9⟩
    refine Au 8 0 [1] [[o0,o0,(a1 1),o0,oT,o0,o0,oT,o0]] [Qb z,BT ((p:Int)<(c.Aa.xs.length:Int)),BT ((lg:Int)≤2147483647)] [(1,pt z),(3,Ac lg),(5,Ac p),(44,.bool true)] rfl ⟨rfl,bt,bt,Ae⟩ ?_
    obtain⟨b10,o11,ha12,hF14,hc13⟩:=(hc.Aa).1.all (show 0<c.Aa.xs.length by omega)
    replace ha12:c.Aa.a=some ⟨b10,o11,none⟩:=ha12
    have hc15:=hc13 p (show p<c.Aa.xs.length by omega)
    have he16:=(hc.Aa).2 p (show p<c.Aa.xs.length by omega)
    obtain⟨y17,hy17⟩:∃ y_,y_=gd c.Aa.xs p:=⟨_,rfl⟩
    rw[←hy17]at he16 hc15
    have hyr:=he16.Ah.1.len;have hyq:=he16.Ap.1.len
    refine DX 18 [0,1] [(Ak w),(QY z c)] rfl rfl ?_
    refine CU [(0,o0),(1,o0),(2,(E8 1 b10 o11 c.Aa)),(3,o0),(4,(oi p)),(5,o0),(6,(oa [.via 0 (.slice y17.Ah.a y17.Ah.xs.length y17.Ah.cap)])),(7,o0),(8,(ov (i6 ((lg+y17.Ah.xs.length:Nat):Int)))),(9,o0),(10,(E8 1 b10 o11 c.Aa)),(11,o0),(12,(oi p)),(13,o0),(14,(oa [.via 0 (.slice y17.Ap.a y17.Ap.xs.length y17.Ap.cap)])),(15,o0),(16,(ov (i6 (((lg+y17.Ah.xs.length)+y17.Ap.xs.length:Nat):Int)))),(17,o0)] [1,3,5] [Qb z,DZ b10 o11 c.Aa,CW p,p<c.Aa.xs.length,Ce,Old w b10 (o11+p*8+6) (.slice y17.Ah.a y17.Ah.xs.length y17.Ah.cap),Wr ((lg:Int)+(y17.Ah.xs.length:Int)) (((lg+y17.Ah.xs.length:Nat):Int)),Qb z,DZ b10 o11 c.Aa,CW p,p<c.Aa.xs.length,Ce,Old w b10 (o11+p*8+7) (.slice y17.Ap.a y17.Ap.xs.length y17.Ap.cap),Wr ((((lg+y17.Ah.xs.length:Nat):Int):Int)+(y17.Ap.xs.length:Int)) ((((lg+y17.Ah.xs.length)+y17.Ap.xs.length:Nat):Int))] (D7 18 0) [(1,pt z),(3,i6 (((lg+y17.Ah.xs.length)+y17.Ap.xs.length:Nat):Int)),(5,Ac p)] ⟨rfl,Ea ha12,rfl,(by omega),rfl,Aw (hc15 6 _ rfl),BQ,rfl,Ea ha12,rfl,(by omega),rfl,Aw (hc15 7 _ rfl),BQ,Ae⟩ ?_
    refine CO ?_
    refine LX 4 0 [] [[o0,(ov (i6 ((p+1:Nat):Int))),o0]] [Wr ((p:Int)+1) (((p+1:Nat):Int))] [(1,pt z),(3,i6 (((lg+y17.Ah.xs.length)+y17.Ap.xs.length:Nat):Int)),(5,i6 ((p+1:Nat):Int))] rfl ⟨BQ,Ae⟩ ?_
    refine BO (fun a w' hs=>⟨c.Aa.xs.length - (p+1),by omega,n6,(p+1),((lg+y17.Ah.xs.length)+y17.Ap.xs.length),rfl,by omega,by omega,by omega,hs⟩)
   refine Au 10 0 [0] [[o0,o0,(a1 1),o0,oF,o0,o0]] [Qb z,BF ((p:Int)<(c.Aa.xs.length:Int))] [(1,pt z),(3,Ac lg),(5,Ac p),(44,.bool false)] rfl ⟨rfl,bf,Ae⟩ ?_
   by_cases h18:(2147483647:Int)<(lg:Int)
   ·refine Au 4 0 [] [[o0,oT,o0]] [BT ((lg:Int) > 2147483647)] [(2,.bool true)] rfl ⟨bt,Ae⟩ ?_
    refine Az [] [] (.bool true) Ae ?_
    intro w19 hw19
    exact⟨_,rfl,AA hw19⟩
   refine Au 4 0 [] [[o0,oF,o0]] [BF ((lg:Int) > 2147483647)] [(2,.bool false)] rfl ⟨bf,Ae⟩ ?_
   refine Az [] [] (.bool false) Ae ?_
   intro w20 hw20
   exact⟨_,rfl,AA hw20⟩
  refine Au 8 0 [1] [[o0,o0,(a1 1),o0,oT,o0,o0,oT,o0]] [Qb z,BT ((i:Int)<(c.AX.xs.length:Int)),BT ((lf:Int)≤2147483647)] [(1,pt z),(3,Ac lf),(4,Ac i),(25,.bool true)] rfl ⟨rfl,bt,bt,Ae⟩ ?_
  obtain⟨b21,o22,ha23,hF25,hc24⟩:=(hc.AX).1.all (show 0<c.AX.xs.length by omega)
  replace ha23:c.AX.a=some ⟨b21,o22,none⟩:=ha23
  have hc26:=hc24 i (show i<c.AX.xs.length by omega)
  have he27:=(hc.AX).2 i (show i<c.AX.xs.length by omega)
  obtain⟨y28,hy28⟩:∃ y_,y_=gd c.AX.xs i:=⟨_,rfl⟩
  rw[←hy28]at he27 hc26
  have hyl:=he27.1.len
  refine Au 6 0 [] [[o0,o0,(E8 1 b21 o22 c.AX),o0,(oi i),(oa [.via 0 (.slice y28.a y28.xs.length y28.cap)]),o0,(ov (i6 ((lf+y28.xs.length:Nat):Int))),o0],[o0,(ov (i6 ((i+1:Nat):Int))),o0]] [Qb z,DZ b21 o22 c.AX,CW i,i<c.AX.xs.length,Ce,Old w b21 (o22+i) (.slice y28.a y28.xs.length y28.cap),Wr ((lf:Int)+(y28.xs.length:Int)) (((lf+y28.xs.length:Nat):Int)),Wr ((i:Int)+1) (((i+1:Nat):Int))] [(1,pt z),(3,i6 ((lf+y28.xs.length:Nat):Int)),(4,i6 ((i+1:Nat):Int))] rfl ⟨rfl,Ea ha23,rfl,(by omega),rfl,Aw (hc26 0 _ rfl),BQ,BQ,Ae⟩ ?_
  refine BO (fun a w' hs=>⟨c.AX.xs.length - (i+1),by omega,n2,(i+1),(lf+y28.xs.length),rfl,by omega,by omega,by omega,hs⟩)
 refine Au 15 0 [0] [[o0,o0,(a1 1),o0,oF,o0,o0],[o0]] [Qb z,BF ((i:Int)<(c.AX.xs.length:Int))] [(1,pt z),(3,Ac lf),(5,i6 0)] rfl ⟨rfl,bf,Ae⟩ ?_
 refine Du (fun m a w'=>∃ (n30:Nat) (p:Nat) (lg:Nat),m=c.Aa.xs.length - p∧n2≤n30∧(p≤c.Aa.xs.length)∧(lg≤422214612537343)∧St 66 [(1,pt z),(3,Ac lg),(5,Ac p)] [] ⟨w,n30,[(Ak w),(QY z c)]⟩ a w') (c.Aa.xs.length - 0) ?_ ?_
 ·intro a w' hs;exact⟨n2,0,lf,rfl,Nat.le_refl _,Nat.zero_le _,by omega,hs⟩
 rintro m a w' ⟨n30,p,lg,rfl,hn29,hkp,hlg,hs⟩
 refine(?_:G Tryd.prog 66 [(1,pt z),(3,Ac lg),(5,Ac p)] [] ⟨w,n30,[(Ak w),(QY z c)]⟩ _ _ _) a w' hs
 clear hs a w'
 refine CB <| CB ?_
 by_cases h31:(p:Int)<(c.Aa.xs.length:Int)
 ·by_cases h32:(2147483647:Int)<(lg:Int)
  ·refine Au 14 0 [0] [[o0,o0,(a1 1),o0,oT,o0,o0,oF,o0],[o0,oT,o0]] [Qb z,BT ((p:Int)<(c.Aa.xs.length:Int)),BF ((lg:Int)≤2147483647),BT ((lg:Int) > 2147483647)] [(2,.bool true)] rfl ⟨rfl,bt,bf,bt,Ae⟩ ?_
   refine Az [] [] (.bool true) Ae ?_
   intro w33 hw33
   exact⟨_,rfl,AA hw33⟩
  refine Au 8 0 [1] [[o0,o0,(a1 1),o0,oT,o0,o0,oT,o0]] [Qb z,BT ((p:Int)<(c.Aa.xs.length:Int)),BT ((lg:Int)≤2147483647)] [(1,pt z),(3,Ac lg),(5,Ac p),(44,.bool true)] rfl ⟨rfl,bt,bt,Ae⟩ ?_
  obtain⟨b34,o35,ha36,hF38,hc37⟩:=(hc.Aa).1.all (show 0<c.Aa.xs.length by omega)
  replace ha36:c.Aa.a=some ⟨b34,o35,none⟩:=ha36
  have hc39:=hc37 p (show p<c.Aa.xs.length by omega)
  have he40:=(hc.Aa).2 p (show p<c.Aa.xs.length by omega)
  obtain⟨y41,hy41⟩:∃ y_,y_=gd c.Aa.xs p:=⟨_,rfl⟩
  rw[←hy41]at he40 hc39
  have hyr:=he40.Ah.1.len;have hyq:=he40.Ap.1.len
  refine DX 18 [0,1] [(Ak w),(QY z c)] rfl rfl ?_
  refine CU [(0,o0),(1,o0),(2,(E8 1 b34 o35 c.Aa)),(3,o0),(4,(oi p)),(5,o0),(6,(oa [.via 0 (.slice y41.Ah.a y41.Ah.xs.length y41.Ah.cap)])),(7,o0),(8,(ov (i6 ((lg+y41.Ah.xs.length:Nat):Int)))),(9,o0),(10,(E8 1 b34 o35 c.Aa)),(11,o0),(12,(oi p)),(13,o0),(14,(oa [.via 0 (.slice y41.Ap.a y41.Ap.xs.length y41.Ap.cap)])),(15,o0),(16,(ov (i6 (((lg+y41.Ah.xs.length)+y41.Ap.xs.length:Nat):Int)))),(17,o0)] [1,3,5] [Qb z,DZ b34 o35 c.Aa,CW p,p<c.Aa.xs.length,Ce,Old w b34 (o35+p*8+6) (.slice y41.Ah.a y41.Ah.xs.length y41.Ah.cap),Wr ((lg:Int)+(y41.Ah.xs.length:Int)) (((lg+y41.Ah.xs.length:Nat):Int)),Qb z,DZ b34 o35 c.Aa,CW p,p<c.Aa.xs.length,Ce,Old w b34 (o35+p*8+7) (.slice y41.Ap.a y41.Ap.xs.length y41.Ap.cap),Wr ((((lg+y41.Ah.xs.length:Nat):Int):Int)+(y41.Ap.xs.length:Int)) ((((lg+y41.Ah.xs.length)+y41.Ap.xs.length:Nat):Int))] (D7 18 0) [(1,pt z),(3,i6 (((lg+y41.Ah.xs.length)+y41.Ap.xs.length:Nat):Int)),(5,Ac p)] ⟨rfl,Ea ha36,rfl,(by omega),rfl,Aw (hc39 6 _ rfl),BQ,rfl,Ea ha36,rfl,(by omega),rfl,Aw (hc39 7 _ rfl),BQ,Ae⟩ ?_
  refine CO ?_
  refine LX 4 0 [] [[o0,(ov (i6 ((p+1:Nat):Int))),o0]] [Wr ((p:Int)+1) (((p+1:Nat):Int))] [(1,pt z),(3,i6 (((lg+y41.Ah.xs.length)+y41.Ap.xs.length:Nat):Int)),(5,i6 ((p+1:Nat):Int))] rfl ⟨BQ,Ae⟩ ?_
  refine BO (fun a w' hs=>⟨c.Aa.xs.length - (p+1),by omega,n30,(p+1),((lg+y41.Ah.xs.length)+y41.Ap.xs.length),rfl,by omega,by omega,by omega,hs⟩)
 refine Au 10 0 [0] [[o0,o0,(a1 1),o0,oF,o0,o0]] [Qb z,BF ((p:Int)<(c.Aa.xs.length:Int))] [(1,pt z),(3,Ac lg),(5,Ac p),(44,.bool false)] rfl ⟨rfl,bf,Ae⟩ ?_
 by_cases h42:(2147483647:Int)<(lg:Int)
 ·refine Au 4 0 [] [[o0,oT,o0]] [BT ((lg:Int) > 2147483647)] [(2,.bool true)] rfl ⟨bt,Ae⟩ ?_
  refine Az [] [] (.bool true) Ae ?_
  intro w43 hw43
  exact⟨_,rfl,AA hw43⟩
 refine Au 4 0 [] [[o0,oF,o0]] [BF ((lg:Int) > 2147483647)] [(2,.bool false)] rfl ⟨bf,Ae⟩ ?_
 refine Az [] [] (.bool false) Ae ?_
 intro w44 hw44
 exact⟨_,rfl,AA hw44⟩
def memS(n mq:Nat)(aW:Option Addr)(nW cW:Nat)(W:List Int):List Ch:=[.blk mq (.cells #[.slice aW nW cW] 81 (0,0)) true,Cm n 54 1 (fun x:Int=>[Value.int .u32 x]) (.slice aW nW cW) W]
theorem memnew_calls(w:World)(nF:Nat)(hF1:1≤nF)(hF2:nF≤1024):Calls Tryd.prog 10 #[.int .i64 (nF:Int)] w fun e w'=>∃ mq aW cW,e = .returned (.tuple #[.pointer (some ⟨mq,0,none⟩),.int .i64 0])∧w.heap.size≤mq∧∃ w0,Sat ⟨w0,w'.heap.size,memS w.heap.size mq aW (nF*16) cW (List.replicate (nF*16) 0)⟩ w'∧CE (fun _=>False) w w':=by
 obtain⟨z,hz⟩:∃ z,z=w.heap.size:=⟨_,rfl⟩
 refine Cb (args:=[(Ac nF)]) 18 ⟨w,z,[(Ak w)]⟩ Tryd.func10 rfl (by kernel_rfl) (by kernel_rfl) (Em hz) ?_
 refine DI [0] [(0,Ac nF)] ?_
 refine Au 14 2 [0] [[o0,o0],[o0,oF,o0,o0,oF,o0],[o0,(ov (i6 ((nF*16:Nat):Int)))]] [BF ((nF:Int)<1),BF ((nF:Int) > 1024),Wr ((nF:Int)*16) (((nF*16:Nat):Int))] [(12,i6 ((nF*16:Nat):Int))] rfl ⟨bf,bf,BQ,Ae⟩ ?_
 refine l_make z (nF*16) 0 (fun x:Int=>[Value.int .u32 x]) 54 1 4 (.int .u32 0) (((nF*16:Nat):Int):Int) (((nF*16:Nat):Int):Int) (some 13) rfl rfl (by omega) (show z≤z by omega) (fun n1 (hn2:z+1≤n1) => ?_)
 refine Bq 4 1 [] [[o0],[o0]] [] [(4,.slice (some ⟨z,0,none⟩) (nF*16) (nF*16)),(14,.slice (some ⟨z,0,none⟩) (nF*16) (nF*16))] rfl Ae ?_
 refine l_clear z 1 (List.replicate (nF*16) 0) 0 (fun x:Int=>[Value.int .u32 x]) 54 1 z (nF*16) (nF*16) (.int .u32 0) none rfl ?_
 refine F8 7 0 [] [[],[o0,o0,o0,o0,o0]] [] [(2,pt n1),(3,i6 0)] ⟨w,n1+1,[(Ak w),(Cm z 54 1 (fun x:Int=>[Value.int .u32 x]) (.slice (some ⟨z,0,none⟩) (nF*16) (nF*16)) (List.replicate (nF*16) 0)),(bk n1 #[.slice (some ⟨z,0,none⟩) (nF*16) (nF*16)] 81)]⟩ rfl Ae ?_
 refine Az [] [] (.tuple #[pt n1,i6 0]) Ae ?_
 intro w3 hw3
 have h4:=hw3.pick [2,1] rfl rfl
 skip
 rw[←hz]
 exact⟨n1,(some ⟨z,0,none⟩),nF*16,rfl,(show z≤n1 by omega),w,by rw[hw3.size];exact h4,AA hw3⟩
end Go.Proofs.YtjdmhijaanmccaaDoor.Dv
namespace Go.Proofs.YtjdmhijaanmccaaDoor.Ad
open Go Go.Proofs.YtjdmhijaanmccaaDoor.Eng Go.Proofs.YtjdmhijaanmccaaDoor.Mem Go.Proofs.YtjdmhijaanmccaaDoor.Ly
set_option linter.unusedSimpArgs false
set_option linter.unusedVariables false
set_option maxRecDepth 100000
def SK(x:Am):Prop:=x=AQ∨((400≤x.e∧x.e≤423) ∧ -1≤x.Ag.First ∧ -1≤x.Ag.Second)
theorem VR:SK AQ:= .inl rfl
theorem Xa{e a b:Int}(h:400≤e∧e≤423)(ha : -1≤a)(hb : -1≤b):SK ⟨e,⟨a,b⟩⟩:= .inr ⟨h,ha,hb⟩
theorem QC{b:Bool}{e x y:Int}(h:400≤e∧e≤423)(ha : -1≤x)(hb : -1≤y):SK (Af b e ⟨x,y⟩):=by
 cases b
 ·exact Xa h ha hb
 exact VR
theorem RS:∀ {l:List Am},(∀ x∈l,SK x)→SK (AV l)
 | [],_=>VR
 | x :: r,h=>by
  unfold AV
  by_cases e:x=AQ
  ·rw[if_pos e];exact RS fun y hy=>h y (List.mem_cons_of_mem _ hy)
  rw[if_neg e];exact h x (List.mem_cons_self ..)
theorem Yt{o:Am}{f:Nat→Am}{n:Nat}(ho:SK o)(hf:∀ i,SK (f i)):SK (Fz o f n):=by
 unfold Fz
 refine RS fun x hx => ?_
 rcases List.mem_cons.1 hx with rfl | hx
 ·exact ho
 obtain⟨i, -,rfl⟩:=List.mem_map.1 hx;exact hf i
section
variable (c:Ai)
theorem Yg(p:Nat):SK (CP c p):=by
 have hr:∀ k,SK (EJ c p k):=by
  intro k
  unfold EJ
  split
  ·exact Xa (by decide) (by omega) (by omega)
  split
  ·exact Xa (by decide) (by omega) (by omega)
  split
  ·exact Xa (by decide) (by omega) (by omega)
  exact VR
 have hA:SK (IV c p):=Yt (RS fun x hx=>by
  simp only[Gw,List.mem_cons,List.not_mem_nil,or_false]at hx
  rcases hx with rfl | rfl | rfl | rfl <;> exact QC (by decide) (by omega) (by omega)) hr
 unfold CP
 split
 ·exact Yt (RS fun x hx=>by
   simp only[HY,List.mem_cons,List.not_mem_nil,or_false]at hx
   rcases hx with rfl | rfl <;> exact QC (by decide) (by omega) (by omega)) (fun k=>QC (by decide) (by omega) (by omega))
 exact hA
theorem VP(h:Nat):SK (Dl c h):=RS fun x hx=>by
 simp only[List.mem_cons,List.not_mem_nil,or_false]at hx
 rcases hx with rfl | rfl | rfl <;> exact QC (by decide) (by omega) (by omega)
theorem Yx(k:Nat):SK (DY c k):=by
 have hw:∀ n,SK (F5 c k n):=fun n=>RS fun x hx=>by
  simp only[MP,List.mem_cons,List.not_mem_nil,or_false]at hx
  rcases hx with rfl | rfl | rfl <;> exact QC (by decide) (by omega) (by omega)
 unfold DY
 split
 ·exact Xa (by decide) (by omega) (by omega)
 split
 ·exact QC (by decide) (by omega) (by omega)
 exact Yt VR hw
theorem okf_check:SK (EI c):=RS fun x hx=>by
 simp only[answers,List.mem_append,List.mem_cons,List.not_mem_nil,or_false,List.mem_map,List.mem_range]at hx
 rcases hx with(((hx | ⟨p, -,rfl⟩) | ⟨p, -,rfl⟩) | ⟨p, -,rfl⟩) | rfl
 ·rcases hx with rfl | rfl | rfl | rfl | rfl <;> exact QC (by decide) (by decide) (by decide)
 ·exact Yg c p
 ·exact VP c p
 ·exact Yx c p
 exact QC (by decide) (by decide) (by decide)
variable {c}
theorem Zb(h:(EI c).e=0):EI c=AQ:=by
 rcases okf_check c with e | e
 ·exact e
 omega
theorem XT:∀ {l:List Am},AV l=AQ→∀ k,k<l.length→gd l k=AQ:=fun h k hk=>by
 rw[Gv hk];exact Nb h _ (List.getElem_mem _)
structure Good(c:Ai):Prop where
 fr:1≤c.Frames∧c.Frames≤1024
 mj:1≤c.Gs∧c.Gs≤16384
 cn:1≤c.AX.xs.length∧c.AX.xs.length≤4
 pn:c.Aa.xs.length≤8
 hn:c.Aj.xs.length≤16
 reg:∀ p k,p<c.Aa.xs.length→k<(gd c.Aa.xs p).Ah.xs.length→1≤(DV c p k).AL∧0≤(DV c p k).Frame∧(DV c p k).Frame+(DV c p k).AL≤c.Frames
 apart:∀ p k q n,p<c.Aa.xs.length→k<(gd c.Aa.xs p).Ah.xs.length→q≤p→n<(gd c.Aa.xs q).Ah.xs.length→(q<p∨n<k)→(DV c p k).Frame+(DV c p k).AL≤(DV c q n).Frame∨(DV c q n).Frame+(DV c q n).AL≤(DV c p k).Frame
 rn:∀ p,p<c.Aa.xs.length→(gd c.Aa.xs p).Ah.xs.length≤8
 qn:∀ p,p<c.Aa.xs.length→(gd c.Aa.xs p).Ap.xs.length≤8
 port:∀ p k,p<c.Aa.xs.length→k<(gd c.Aa.xs p).Ap.xs.length→0≤(Yk c p k).Channel∧(Yk c p k).Channel<(c.Aj.xs.length:Int)
 src:∀ h,h<c.Aj.xs.length→I9 c h=1
 dst:∀ h,h<c.Aj.xs.length→1≤Bj c h∧Bj c h≤4
 wn:∀ k,k<c.AX.xs.length→(gd c.AX.xs k).xs.length≤16
 win:∀ k n,k<c.AX.xs.length→n<(gd c.AX.xs k).xs.length→(-1≤(gd (DT c k).xs n).Partition∧(gd (DT c k).xs n).Partition<(c.Aa.xs.length:Int))∧(1≤(gd (DT c k).xs n).BM∧(gd (DT c k).xs n).BM≤16384)∧(82≤(gd (DT c k).xs n).AU∧(gd (DT c k).xs n).AU≤16384)
 split:∀ k n,k<c.AX.xs.length→n<(gd c.AX.xs k).xs.length→Ik c k (gd (DT c k).xs n).Partition=false
 sum:∀ k,k<c.AX.xs.length→sumW (DT c k).xs (DT c k).xs.length=c.Gs
 kern:(0≤c.Kernel∧c.Kernel≤c.Frames - 1)∧(1≤c.Room∧c.Room≤c.Frames - c.Kernel)
 own:∀ q n,q<c.Aa.xs.length→n<(gd c.Aa.xs q).Ah.xs.length→(DV c q n).Frame+(DV c q n).AL≤c.Kernel∨c.Kernel+c.Room≤(DV c q n).Frame
 err:errOf c=0
 need:1≤JL c∧JL c≤c.Room
theorem meet_no{a m b o:Int}(h:meet a m b o=false):b+o≤a∨a+m≤b:=by
 unfold meet at h
 simp only[Bool.and_eq_false_iff,decide_eq_false_iff_not]at h
 omega
theorem Vj{p:Nat→Bool}{n:Nat}(h:(List.range n).any p=false){k:Nat}(hk:k<n):p k=false:=by
 rw[List.any_eq_false]at h
 have:=h k (List.mem_range.2 hk)
 simpa using this
theorem tAt_low(h:Fine c):∀ i,c.Kernel+1≤Ec c i
 | 0=>by
  have h1:=Sz h _ (Nat.le_refl _)
  unfold CV at h1
  rw[tAt_zero];omega
 | i+1=>by
  have:=tAt_low h i
  rw[Uw];omega
theorem need_pos(h:errOf c=0):1≤JL c:=by
 have hok:Ej c=true:=by
  cases e:Ej c with
  | true=>rfl
  | false=>unfold errOf at h;rw[e]at h;exact absurd h (by decide)
 unfold JL
 rw[if_pos hok]
 have hf:=TM hok
 have h1:=tAt_low hf c.Aa.xs.length
 omega
theorem good_of(h:EI c=AQ):Good c:=by
 have ha:∀ i,i<(answers c).length→gd (answers c) i=AQ:=XT h
 have hl:=GL (c:=c)
 have g0:=ha 0 (by omega);have g1:=ha 1 (by omega);have g2:=ha 2 (by omega);have g3:=ha 3 (by omega);have g4:=ha 4 (by omega)
 rw[Vl (by decide)]at g0 g1 g2 g3 g4
 have w0:=DD ((Ic (by decide)).1 (show Af (win c.Frames 1 1024) 400 ⟨-1, -1⟩=AQ from g0))
 have w1:=DD ((Ic (by decide)).1 (show Af (win c.Gs 1 16384) 401 ⟨-1, -1⟩=AQ from g1))
 have w2:=DD ((Ic (by decide)).1 (show Af (win (c.AX.xs.length:Int) 1 4) 402 ⟨-1, -1⟩=AQ from g2))
 have w3:=DD ((Ic (by decide)).1 (show Af (win (c.Aa.xs.length:Int) 1 8) 403 ⟨-1, -1⟩=AQ from g3))
 have w4:=of_decide_eq_true ((Ic (by decide)).1 (show Af (decide ((c.Aj.xs.length:Int)≤16)) 404 ⟨-1, -1⟩=AQ from g4))
 have hp:∀ p,p<c.Aa.xs.length→CP c p=AQ:=fun p hp=>by rw[←VL hp];exact ha _ (by omega)
 have hh:∀ k,k<c.Aj.xs.length→Dl c k=AQ:=fun p hp=>by rw[←YF hp];exact ha _ (by omega)
 have hk:∀ k,k<c.AX.xs.length→DY c k=AQ:=fun p hp=>by rw[←YM hp];exact ha _ (by omega)
 have he:Ir c=AQ:=by rw[←YW (c:=c)];exact ha _ (by omega)
 have hB:∀ p,p<c.Aa.xs.length→∀ k,k<(Ey c p).Ah.xs.length→EJ c p k=AQ:=fun p hp'=>(Nz (Ot (hp p hp'))).2
 have hreg:∀ p k,p<c.Aa.xs.length→k<(gd c.Aa.xs p).Ah.xs.length→Js c (DV c p k)=true∧(List.range k).any (Qh c p k)=false∧(List.range (p+1)).any (Ye c p k)=false:=by
  intro p k h1 h2
  have e:=hB p h1 k h2
  have e1:=U6 e
  by_cases e2:(List.range k).any (Qh c p k)=true
  ·rw[regQ_b e1 e2]at e;exact absurd (congrArg Am.e e) (by decide:¬ (410:Int)=0)
  have e2':(List.range k).any (Qh c p k)=false:=by simpa using e2
  by_cases e3:(List.range (p+1)).any (Ye c p k)=true
  ·rw[WZ e1 e2' e3]at e;exact absurd (congrArg Am.e e) (by decide:¬ (411:Int)=0)
  exact⟨e1,e2',by simpa using e3⟩
 have hPE:∀ p,p<c.Aa.xs.length→_:=fun p hp'=>Nz (Zv (hp p hp'))
 have hkb:=(Ic (by decide)).1 (show Af (F9 c) 423 ⟨-1, -1⟩=AQ from he)
 unfold F9 at hkb
 simp only[Bool.and_eq_true,Bool.not_eq_true',decide_eq_true_eq]at hkb
 obtain⟨⟨⟨k1,k2⟩,k3⟩,k4,k5⟩:=hkb
 have hcore:∀ k,k<c.AX.xs.length→win ((DT c k).xs.length:Nat) 1 16=true∧Fz AQ (F5 c k) (DT c k).xs.length=AQ∧sumW (DT c k).xs (DT c k).xs.length=c.Gs:=by
  intro k hk'
  have e:=hk k hk'
  unfold DY at e
  by_cases e1:win ((DT c k).xs.length:Nat) 1 16=false
  ·rw[if_pos e1]at e;exact absurd (congrArg Am.e e) (by decide:¬ (418:Int)=0)
  rw[if_neg e1]at e
  by_cases e2:Fz AQ (F5 c k) (DT c k).xs.length=AQ
  ·rw[if_pos e2,Ic (by decide)]at e
   exact⟨by simpa using e1,e2,of_decide_eq_true e⟩
  rw[if_neg e2]at e;exact absurd e e2
 have hcw:∀ k n,k<c.AX.xs.length→n<(gd c.AX.xs k).xs.length→F5 c k n=AQ:=fun k n h1 h2=>(Nz (hcore k h1).2.1).2 n h2
 refine⟨w0,w1,by omega,by omega,by omega, ?_, ?_, ?_, ?_, ?_, ?_, ?_, ?_, ?_, ?_, ?_,⟨DD k1,DD k2⟩, ?_,k4,⟨need_pos k4,k5⟩⟩
 ·intro p k h1 h2
  have e:=(hreg p k h1 h2).1
  unfold Js at e
  simp only[Bool.and_eq_true,decide_eq_true_eq]at e
  have a1:=DD e.1.1.1.2
  omega
 ·intro p k q n h1 h2 h3 h4 h5
  have e:=Vj (Vj (hreg p k h1 h2).2.2 (show q<p+1 by omega)) (show n<(Ey c q).Ah.xs.length from h4)
  unfold Qg at e
  rw[Bool.and_eq_false_iff]at e
  rcases e with e | e
  ·simp only[Bool.or_eq_false_iff,decide_eq_false_iff_not]at e;omega
  have:=meet_no e;omega
 ·intro p h1
  have e:=(Nz (Ot (hp p h1))).1
  have e2:=Nb e _ (List.mem_cons_of_mem _ (List.mem_cons_of_mem _ (List.mem_cons_of_mem _ (List.mem_cons_self ..))))
  rw[Ic (by decide)]at e2
  have:=DD e2
  simp only[Ey]at this
  omega
 ·intro p h1
  have e2:=Nb (hPE p h1).1 _ (List.mem_cons_of_mem _ (List.mem_cons_self ..))
  rw[Ic (by decide)]at e2
  have:=of_decide_eq_true e2
  simp only[Ey]at this
  omega
 ·intro p k h1 h2
  have e2:=(hPE p h1).2 k h2
  unfold J5 at e2
  rw[Ic (by decide)]at e2
  have:=DD e2
  omega
 ·intro k h1
  have e0:=hh k h1
  unfold Dl at e0
  have e:=Nb e0 _ (List.mem_cons_of_mem _ (List.mem_cons_self ..))
  rw[Ic (by decide)]at e
  have:=of_decide_eq_true e
  omega
 ·intro k h1
  have e0:=hh k h1
  unfold Dl at e0
  have e:=Nb e0 _ (List.mem_cons_of_mem _ (List.mem_cons_of_mem _ (List.mem_cons_self ..)))
  rw[Ic (by decide)]at e
  have:=DD e
  have h4:A7 (Lm c k)≤4:=by unfold A7;split <;> omega
  omega
 ·intro k h1
  have:=DD (hcore k h1).1
  simp only[DT]at this
  omega
 ·intro k n h1 h2
  have e:=hcw k n h1 h2
  have e2:=SN e
  unfold F5 MP at e
  have e3:=Nb e _ (List.mem_cons_self ..)
  rw[Ic (by decide),Bool.and_eq_true]at e3
  have e4:=DD e3.1
  exact⟨by omega,e2⟩
 ·intro k n h1 h2
  have e:=hcw k n h1 h2
  unfold F5 MP at e
  have e3:=Nb e _ (List.mem_cons_of_mem _ (List.mem_cons_of_mem _ (List.mem_cons_self ..)))
  rw[Ic (by decide)]at e3
  simpa using e3
 ·intro k h1
  exact(hcore k h1).2.2
 intro q n h1 h2
 have e:=Vj (Vj k3 h1) (show n<(Ey c q).Ah.xs.length from h2)
 unfold Wx at e
 have:=meet_no e
 omega
end
end Go.Proofs.YtjdmhijaanmccaaDoor.Ad
namespace Go.Proofs.YtjdmhijaanmccaaDoor.Dv
open Go Go.Proofs.YtjdmhijaanmccaaDoor.Eng Go.Proofs.YtjdmhijaanmccaaDoor.Mem Go.Proofs.YtjdmhijaanmccaaDoor.Ly Go.Proofs.YtjdmhijaanmccaaDoor.Ad
set_option linter.unusedSimpArgs false
set_option linter.unusedVariables false
set_option maxRecDepth 100000
def LQ(c:Ai)(i:Nat):List Int:=(List.range i).map fun q=>(gd c.Aa.xs q).Bv
def QS(c:Ai)(i:Nat):List Int:=(List.range i).map fun(q:Nat)=>c.Kernel*16+25+24*(q:Int)
theorem outsL_len{c:Ai}{i:Nat}:(LQ c i).length=i:=by simp[LQ]
theorem atL_len{c:Ai}{i:Nat}:(QS c i).length=i:=by simp[QS]
theorem outsL_succ{c:Ai}{i:Nat}:LQ c (i+1)=LQ c i++[(gd c.Aa.xs i).Bv]:=by unfold LQ;rw[List.range_succ,List.map_append];rfl
theorem atL_succ{c:Ai}{i:Nat}:QS c (i+1)=QS c i++[c.Kernel*16+25+24*(i:Int)]:=by unfold QS;rw[List.range_succ,List.map_append];rfl
theorem ok_of_err{c:Ai}(h:errOf c=0):Ej c=true:=by
 unfold errOf at h
 cases hk:Ej c with
 | true=>rfl
 | false=>rw[hk]at h;exact absurd h (by decide)
theorem state_is{c:Ai}{L:G9}(hI:VG c L){i:Nat}(hi:i<c.Aa.xs.length):(gd L.Aa.xs i).State=c.Kernel*16+21+24*(i:Int):=by
 obtain⟨_,_,h⟩:=hI.ps i hi
 rw[h]
 show CV c i+2+17=_
 unfold CV;omega
structure Z8(nP nW:Nat)(fr:Int)(O A W:List Int):Prop where
 ol:O.length=nP
 al:A.length=nP
 wl:W.length=nW
 pn:nP≤8
 wn:nW≤16384
 fr:((nW / 16:Nat):Int)=fr
 aI:∀ q,q<nP→0≤gd A q∧gd A q<(nW:Int)
 oI:∀ q,q<nP→0≤gd O q∧gd O q≤16
 wI:∀ q,q<nW→0≤gd W q∧gd W q<4294967296
def RV(O A W:List Int)(p:Int):Int×Int×List Int:=if 0≤p∧p<(A.length:Int)then(if gd O p.toNat≤gd W (gd A p.toNat).toNat then(5,0,W)else(0,0,W.set (gd A p.toNat).toNat (gd W (gd A p.toNat).toNat+1)))else(0,1,W)
def dvS(n dp:Nat)(fr:Int)(nP:Nat)(O A:List Int)(aO:Option Addr)(cO:Nat)(aA:Option Addr)(cA:Nat)(ms:Value)(n2 mq:Nat)(aW:Option Addr)(nW cW:Nat)(W:List Int):List Ch:=[.blk dp (.cells #[.int .i64 fr,.slice aO nP cO,.slice aA nP cA,ms] 68 (0,0)) true,Cm n 3 1 (fun x:Int=>[Value.int .i64 x]) (.slice aO nP cO) O,Cm n 3 1 (fun x:Int=>[Value.int .i64 x]) (.slice aA nP cA) A,.blk mq (.cells #[.slice aW nW cW] 81 (0,0)) true,Cm n2 54 1 (fun x:Int=>[Value.int .u32 x]) (.slice aW nW cW) W]
theorem dvS_rw{n dp:Nat}{fr:Int}{nP:Nat}{O A:List Int}{aO:Option Addr}{cO:Nat}{aA:Option Addr}{cA:Nat}{ms:Value}{n2 mq:Nat}{aW:Option Addr}{nW cW:Nat}{W:List Int}:∀ c∈dvS n dp fr nP O A aO cO aA cA ms n2 mq aW nW cW W,c.rw=true:=fun c hc=>by
 simp only[dvS,List.mem_cons,List.not_mem_nil,or_false]at hc
 rcases hc with rfl | rfl | rfl | rfl | rfl <;> rfl
theorem Y9{n dp:Nat}{fr:Int}{nP:Nat}{O A:List Int}{aO:Option Addr}{cO:Nat}{aA:Option Addr}{cA:Nat}{ms:Value}{n2 mq:Nat}{aW:Option Addr}{nW cW:Nat}{W W':List Int}{b:Nat}(h:Ri (dvS n dp fr nP O A aO cO aA cA ms n2 mq aW nW cW W') b):Ri (dvS n dp fr nP O A aO cO aA cA ms n2 mq aW nW cW W) b:=by
 simp only[Ri,dvS,List.mem_cons,List.not_mem_nil,or_false,exists_eq_or_imp,exists_eq_left]at h ⊢
 rcases h with h | h | h | h | h
 ·exact .inl h
 ·exact .inr (.inl h)
 ·exact .inr (.inr (.inl h))
 ·exact .inr (.inr (.inr (.inl h)))
 refine .inr (.inr (.inr (.inr ?_)))
 cases aW <;> exact h
def begU(W:List Int)(a:Nat):Nat→List Int
 | 0=>W
 | _+1=>W.set a 0
theorem Ky{W:List Int}{a:Nat}:∀ k,(begU W a k).length=W.length
 | 0=>rfl
 | _+1=>List.length_set
section
variable (dp:Nat)(fr:Int)(aO:Option Addr)(nP cO:Nat)(aA:Option Addr)(cA:Nat)(ms:Value)(mq:Nat)(aW:Option Addr)(nW cW z:Nat)(p:Int)(n2 b24:Nat)(W:List Int)(n b15:Nat)(A:List Int)(b28:Nat)(O:List Int)
abbrev O0:=bk dp #[i6 fr,.slice aO nP cO,.slice aA nP cA,ms] 68
abbrev Nv:=bk mq #[.slice aW nW cW] 81
abbrev NC:=Cm z 3 1 (fun x:Int=>[i6 x]) (.slice (some ⟨z,0,none⟩) 1 1) ([p]:List Int)
abbrev YK:=Cm n2 54 1 (fun x:Int=>[Value.int .u32 x]) (.slice (some ⟨b24,0,none⟩) nW cW) W
abbrev Uo:=Cm n 3 1 (fun x:Int=>[i6 x]) (.slice (some ⟨b15,0,none⟩) nP cA) A
abbrev UM:=Cm n 3 1 (fun x:Int=>[i6 x]) (.slice (some ⟨b28,0,none⟩) nP cO) O
abbrev Ny:=Cm n2 54 1 (fun x:Int=>[Value.int .u32 x]) (.slice aW nW cW) W
abbrev Nc:=Cm n 3 1 (fun x:Int=>[i6 x]) (.slice aO nP cO) O
abbrev O1:=Cm n 3 1 (fun x:Int=>[i6 x]) (.slice aA nP cA) A
abbrev Qe:Dk:=(15,.slice (some ⟨z,0,none⟩) 1 1)
abbrev KF:=(0,pt dp)
abbrev KA:=(1,pt mq)
end
theorem out_calls(w w0:World)(n dp:Nat)(fr:Int)(nP:Nat)(O A:List Int)(aO:Option Addr)(cO:Nat)(aA:Option Addr)(cA:Nat)(ms:Value)(n2 mq:Nat)(aW:Option Addr)(nW cW:Nat)(W:List Int)(hO:Sat ⟨w0,w.heap.size,dvS n dp fr nP O A aO cO aA cA ms n2 mq aW nW cW W⟩ w)(S0:Nat→Prop)(hS0:S0=Ri (dvS n dp fr nP O A aO cO aA cA ms n2 mq aW nW cW W))(hn0:n≤w.heap.size)(hn2:n2≤w.heap.size)(hD:Z8 nP nW fr O A W)(p:Int)(hp:IC .i64 p):Calls Tryd.prog 12 #[.pointer (some ⟨dp,0,none⟩),.pointer (some ⟨mq,0,none⟩),.int .i64 p] w fun e w'=>e = .returned (.tuple #[.int .i64 (RV O A W p).1,.int .i64 (RV O A W p).2.1])∧Sat ⟨w,w'.heap.size,dvS n dp fr nP O A aO cO aA cA ms n2 mq aW nW cW (RV O A W p).2.2⟩ w'∧CE S0 w w':=by
 obtain⟨z,hz⟩:∃ z,z=w.heap.size:=⟨_,rfl⟩
 refine Cb (args:=[pt dp,pt mq,i6 p]) 57 ⟨w,z,[(old S0 w),(O0 dp fr aO nP cO aA cA ms),(Nc aO nP cO n O),(O1 nP aA cA n A),(Nv mq aW nW cW),(Ny aW nW cW n2 W)]⟩ Tryd.func12 rfl (by kernel_rfl) (by kernel_rfl) (hS0 ▸ hz ▸ sat_spend hO dvS_rw) ?_
 have hdl:=hD.ol;have hdm:=hD.al;have hdw:=hD.wl;have hdp:=hD.pn;have hdn:=hD.wn;have hdf:=hD.fr;have hpI:(-9223372036854775808:Int)≤p∧p≤9223372036854775807:=hp
 refine DI [0,1,2] [(KF dp),(KA mq),(2,i6 p)] ?_
 refine q_c 7 4 [] [[o0,o0],[o0,o0,o0,o0]] [] [(KF dp),(KA mq),(2,i6 p),(10,pt dp),(11,pt mq),(13,.slice (some ⟨z,0,none⟩) 1 1)] ⟨w,z+1,[(old S0 w),(O0 dp fr aO nP cO aA cA ms),(Nc aO nP cO n O),(O1 nP aA cA n A),(Nv mq aW nW cW),(Ny aW nW cW n2 W),(bk z #[i6 p] 3)]⟩ rfl Ae ?_
 refine l_call [] [] 27 #[pt dp,pt mq,.slice (some ⟨z,0,none⟩) 1 1] (some 14) Ae ?_
 intro w1 hw1
 refine Cb (args:=[pt dp,pt mq,.slice (some ⟨z,0,none⟩) 1 1]) 40 ⟨w,z+1,[(old S0 w),(O0 dp fr aO nP cO aA cA ms),(Nc aO nP cO n O),(O1 nP aA cA n A),(Nv mq aW nW cW),(Ny aW nW cW n2 W),(bk z #[i6 p] 3)]⟩ Tryd.func27 rfl (by kernel_rfl) (by kernel_rfl) hw1 ?_
 refine Au 18 0 [0] [[o0],[o0,o0,o0,o0,o0,o0],[o0,o0,o0]] [] [(KF dp),(KA mq),(Qe z),(16,i6 1),(17,i6 0)] rfl Ae ?_
 refine g_blkrow 6 z z 3 1 (fun x:Int=>[i6 x]) ([p]:List Int) #[i6 p] (by omega) (?_:G _ _ _ _ ⟨w,z+1,[(old S0 w),(O0 dp fr aO nP cO aA cA ms),(Nc aO nP cO n O),(O1 nP aA cA n A),(Nv mq aW nW cW),(Ny aW nW cW n2 W),(NC z p)]⟩ _ _ _)
 refine Du (fun m a w'=>∃ (n3:Nat) (kn:Nat),m=1 - kn∧z+1≤n3∧(kn≤1)∧(kn=0∨(0≤p∧p<(nP:Int)))∧St 40 [(KF dp),(KA mq),(Qe z),(16,i6 1),(17,Ac kn)] [] ⟨w,n3,[(old S0 w),(O0 dp fr aO nP cO aA cA ms),(Nc aO nP cO n O),(O1 nP aA cA n A),(Nv mq aW nW cW),(Ny aW nW cW n2 W),(NC z p)]⟩ a w') (1 - 0) ?_ ?_
 ·intro a w' hs;exact⟨(z+1),0,rfl,Nat.le_refl _,Nat.zero_le _,.inl rfl,hs⟩
 rintro m a w' ⟨n3,kn,rfl,hn2,hkkn,hkp,hs⟩
 refine(?_:G Tryd.prog 40 [(KF dp),(KA mq),(Qe z),(16,i6 1),(17,Ac kn)] [] ⟨w,n3,[(old S0 w),(O0 dp fr aO nP cO aA cA ms),(Nc aO nP cO n O),(O1 nP aA cA n A),(Nv mq aW nW cW),(Ny aW nW cW n2 W),(NC z p)]⟩ _ _ _) a w' hs
 clear hs a w'
 refine CB ?_
 by_cases h4:(kn:Int)<1
 ·refine Au 14 0 [1] [[oT],[(oi kn),(oa [.via 6 (i6 p)]),o0]] [BT ((kn:Int)<1),CW kn,kn<1,Ce,∀ w',Ch.holds (NC z p) w'→w'.cell? ⟨z,0+kn,none⟩=some (i6 p)] [(KF dp),(KA mq),(Qe z),(16,i6 1),(17,Ac kn),(8,i6 p)] rfl ⟨bt,rfl,(by omega),rfl,Fp (sz:=1) (j:=kn) (k:=0) (fun _=>rfl) (by first | omega | (simp only[List.length_cons,List.length_nil];omega) | (rw[Ky];omega) | (rw[List.length_set];omega) | (rw[List.length_set,Ky];omega)) (by rw[show kn=0 by omega];rfl),Ae⟩ ?_
  by_cases h5:(p:Int)<0
  ·refine Au 9 0 [1] [[o0,oT,o0,o0],[o0]] [BT ((p:Int)<0)] [(6,i6 1)] rfl ⟨bt,Ae⟩ ?_
   refine Az [] [] (i6 1) Ae ?_
   intro w6 hw6
   refine⟨_,_,rfl,hw6, ?_⟩
   refine Bq 12 0 [1] [[o0],[o0,o0],[o0,o0,o0]] [] [(6,i6 0),(7,i6 1)] rfl Ae ?_
   refine Az [] [] (.tuple #[i6 0,i6 1]) Ae ?_
   intro w7 hw7
   have h4:=hw7.pick [1,2,3,4,5] rfl rfl
   (try dsimp only[O0,Nv,NC,Ny,Nc,O1,Qe,KF,KA]at h4)
   (unfold RV;rw[if_neg (show ¬ (0≤p∧p<(A.length:Int))from by omega)];exact⟨rfl,by rw[hw7.size];exact h4,Sat.back hw7 rfl (show w.heap.size≤n3 by omega) (List.mem_cons_self ..)⟩)
  by_cases h8:(p:Int)<(nP:Int)
  ·refine Au 9 0 [0] [[o0,oF,o0,o0,o0,o0,o0,(a1 1),o0,oF,o0],[(ov (i6 ((kn+1:Nat):Int))),o0]] [BF ((p:Int)<0),Qb dp,BF ((p:Int)≥(nP:Int)),Wr ((kn:Int)+1) (((kn+1:Nat):Int))] [(KF dp),(KA mq),(Qe z),(16,i6 1),(17,i6 ((kn+1:Nat):Int))] rfl ⟨bf,rfl,bf,BQ,Ae⟩ ?_
   refine BO (fun a w' hs=>⟨1 - (kn+1),by omega,n3,(kn+1),rfl,by omega,by omega,.inr ⟨by omega,by omega⟩,hs⟩)
  refine Au 9 0 [1] [[o0,oF,o0,o0,o0,o0,o0,(a1 1),o0,oT,o0],[o0]] [BF ((p:Int)<0),Qb dp,BT ((p:Int)≥(nP:Int))] [(6,i6 1)] rfl ⟨bf,rfl,bt,Ae⟩ ?_
  refine Az [] [] (i6 1) Ae ?_
  intro w9 hw9
  refine⟨_,_,rfl,hw9, ?_⟩
  refine Bq 12 0 [1] [[o0],[o0,o0],[o0,o0,o0]] [] [(6,i6 0),(7,i6 1)] rfl Ae ?_
  refine Az [] [] (.tuple #[i6 0,i6 1]) Ae ?_
  intro w10 hw10
  have h4:=hw10.pick [1,2,3,4,5] rfl rfl
  (try dsimp only[O0,Nv,NC,Ny,Nc,O1,Qe,KF,KA]at h4)
  (unfold RV;rw[if_neg (show ¬ (0≤p∧p<(A.length:Int))from by omega)];exact⟨rfl,by rw[hw10.size];exact h4,Sat.back hw10 rfl (show w.heap.size≤n3 by omega) (List.mem_cons_self ..)⟩)
 refine Au 12 0 [0] [[oF]] [BF ((kn:Int)<1)] [(KF dp),(KA mq),(Qe z),(16,i6 1),(17,Ac kn),(18,.bool false)] rfl ⟨bf,Ae⟩ ?_
 refine DX 7 [0,1,2,3,4,5,6] [(old S0 w),(O0 dp fr aO nP cO aA cA ms),(Nc aO nP cO n O),(O1 nP aA cA n A),(Nv mq aW nW cW),(Ny aW nW cW n2 W),(NC z p)] rfl rfl ?_
 refine CU [(0,o0),(2,o0),(3,o0),(4,o0),(5,(a1 1))] [33,38] [Qb dp] [true,false,true,true,true,true,false] [(33,pt mq),(38,i6 fr)] ⟨rfl,Ae⟩ ?_
 refine Bl 1 ?_
 refine IG [] [] 51 #[pt mq] (some 34) (by as_aux_lemma=>kernel_rfl) rfl rfl Ae ?_
 intro w11 hw11
 refine Cb (args:=[pt mq]) 11 ⟨w,n3,[(old S0 w),(O0 dp fr aO nP cO aA cA ms),(Nc aO nP cO n O),(O1 nP aA cA n A),(Nv mq aW nW cW),(Ny aW nW cW n2 W),(NC z p)]⟩ Tryd.func51 rfl (by kernel_rfl) (by kernel_rfl) hw11 ?_
 refine Au 17 0 [0] [[o0],[o0,o0],[o0,o0,o0,(a1 4),o0,(ov (i6 ((nW / 16:Nat):Int))),o0]] [Qb mq,Wr (Int.tdiv ((nW:Int)) 16) (((nW / 16:Nat):Int))] [(2,i6 ((nW / 16:Nat):Int))] rfl ⟨rfl,congrArg (Value.int .i64) (Ob (by omega) (by omega) (by omega)),Ae⟩ ?_
 refine Az [] [] (i6 ((nW / 16:Nat):Int)) Ae ?_
 intro w12 hw12
 have hs13:=hw12
 refine⟨_,_,rfl,hs13,.inr (fun c hc=>hs13.all c (by first | exact hc | exact EM (is:=[0,1,2,3,4,5,6]) rfl c hc)), ?_⟩
 refine Dw [38,34] [(38,i6 fr),(34,i6 ((nW / 16:Nat):Int))] ?_
 refine CU [(6,oF)] [39] [NF ((nW / 16:Nat):Int) fr] (D7 7 0) [(39,.bool false)] ⟨nf,Ae⟩ ?_
 refine CO ?_
 refine LX 9 0 [0] [[o0]] [] [(6,i6 0)] rfl Ae ?_
 refine Az [] [] (i6 0) Ae ?_
 intro w14 hw14
 refine⟨_,_,rfl,hw14, ?_⟩
 refine Bq 10 0 [0] [[o0],[o0,o0]] [] [(KF dp),(KA mq),(2,i6 p),(8,i6 0),(16,.bool false)] rfl Ae ?_
 refine Lc (base:=n) (e:=3) (sz:=1) (cells:=(fun x:Int=>[i6 x])) (a:=aA) (n:=nP) (cap:=cA) (xs:=A) 3 (by omega) (fun b15 hg16 hb17 => ?_)
 subst hg16
 refine g_region ?_
 have hv18:=hD.aI ((p).toNat) (by omega);have hv19:=hD.oI ((p).toNat) (by omega);have hv20:=hD.wI (gd A ((p).toNat)).toNat (by omega)
 refine Bq 0 8 [] [[o0,o0,o0,o0,(a1 1),o0,(oi ((p).toNat)),(oa [.via 3 (i6 (gd A ((p).toNat)))])]] [Qb dp,(p:Int)=(((p).toNat:Nat):Int),(p).toNat<nP,Ce,∀ w',Ch.holds (Uo nP cA n b15 A) w'→w'.cell? ⟨b15,0+(p).toNat,none⟩=some (i6 (gd A ((p).toNat)))] [(KF dp),(KA mq),(2,i6 p),(19,pt mq),(26,i6 (gd A ((p).toNat)))] rfl ⟨rfl,(by omega),(by omega),rfl,Fp (sz:=1) (j:=(p).toNat) (k:=0) (fun _=>rfl) (by first | omega | (simp only[List.length_cons,List.length_nil];omega) | (rw[Ky];omega) | (rw[List.length_set];omega) | (rw[List.length_set,Ky];omega)) rfl,Ae⟩ ?_
 refine l_call [] [] 29 #[pt mq,i6 (gd A ((p).toNat))] (some 27) Ae ?_
 intro w21 hw21
 refine Cb (args:=[pt mq,i6 (gd A ((p).toNat))]) 20 ⟨w,n3,[(old S0 w),(bk dp #[i6 fr,.slice aO nP cO,.slice (some ⟨b15,0,none⟩) nP cA,ms] 68),(Nc aO nP cO n O),(Uo nP cA n b15 A),(Nv mq aW nW cW),(Ny aW nW cW n2 W),(NC z p)]⟩ Tryd.func29 rfl (by kernel_rfl) (by kernel_rfl) hw21 ?_
 refine Au 7 2 [] [[o0,o0],[o0,o0]] [] [(0,pt mq),(1,i6 (gd A ((p).toNat))),(7,pt mq),(8,i6 (gd A ((p).toNat)))] rfl Ae ?_
 refine l_call [] [] 52 #[pt mq,i6 (gd A ((p).toNat)),i6 1] (some 9) Ae ?_
 intro w22 hw22
 refine Cb (args:=[pt mq,i6 (gd A ((p).toNat)),i6 1]) 35 ⟨w,n3,[(old S0 w),(bk dp #[i6 fr,.slice aO nP cO,.slice (some ⟨b15,0,none⟩) nP cA,ms] 68),(Nc aO nP cO n O),(Uo nP cA n b15 A),(Nv mq aW nW cW),(Ny aW nW cW n2 W),(NC z p)]⟩ Tryd.func52 rfl (by kernel_rfl) (by kernel_rfl) hw22 ?_
 refine Au 25 0 [0,0] [[o0],[o0,o0],[o0,oF,o0,o0,o0,o0,o0,o0,o0,o0,o0,(a1 4),o0,oF,o0,o0,o0,o0,o0,o0,(a1 4),o0,o0,(ov (i6 ((nW:Int) - (gd A ((p).toNat))))),oF,o0],[o0]] [BF (((gd A ((p).toNat)):Int)<0),Qb mq,BF (((gd A ((p).toNat)):Int) > (nW:Int)),Qb mq,Wr ((nW:Int) - (gd A ((p).toNat))) ((nW:Int) - (gd A ((p).toNat))),BF ((1:Int) > ((nW:Int) - (gd A ((p).toNat))))] [(6,i6 0)] rfl ⟨bf,rfl,bf,rfl,BQ,bf,Ae⟩ ?_
 refine Az [] [] (i6 0) Ae ?_
 intro w23 hw23
 refine⟨_,_,rfl,hw23, ?_⟩
 refine Bq 10 0 [0] [[o0],[o0,o0]] [] [(0,pt mq),(1,i6 (gd A ((p).toNat))),(6,i6 0),(11,.bool false)] rfl Ae ?_
 refine Lc (base:=n2) (e:=54) (sz:=1) (cells:=(fun x:Int=>[Value.int .u32 x])) (a:=aW) (n:=nW) (cap:=cW) (xs:=W) 5 (by omega) (fun b24 hg25 hb26 => ?_)
 subst hg25
 refine Au 4 0 [] [[o0,o0,o0,(a1 4),o0,(oi (((gd A ((p).toNat))).toNat)),(oa [.via 5 (.int .u32 (gd W (((gd A ((p).toNat))).toNat)))]),o0,o0]] [Qb mq,((gd A ((p).toNat)):Int)=((((gd A ((p).toNat))).toNat:Nat):Int),((gd A ((p).toNat))).toNat<nW,Ce,∀ w',Ch.holds (YK nW cW n2 b24 W) w'→w'.cell? ⟨b24,0+((gd A ((p).toNat))).toNat,none⟩=some (.int .u32 (gd W (((gd A ((p).toNat))).toNat)))] [(4,.int .u32 (gd W (((gd A ((p).toNat))).toNat))),(5,i6 0)] rfl ⟨rfl,(by omega),(by omega),rfl,Fp (sz:=1) (j:=((gd A ((p).toNat))).toNat) (k:=0) (fun _=>rfl) (by first | omega | (simp only[List.length_cons,List.length_nil];omega) | (rw[Ky];omega) | (rw[List.length_set];omega) | (rw[List.length_set,Ky];omega)) rfl,Ae⟩ ?_
 refine Az [] [] (.tuple #[.int .u32 (gd W (((gd A ((p).toNat))).toNat)),i6 0]) Ae ?_
 intro w27 hw27
 refine⟨_,_,rfl,hw27, ?_⟩
 refine Bq 10 0 [0] [[o0,o0,o0,o0,o0],[o0,o0,o0]] [] [(KF dp),(KA mq),(2,i6 p),(9,.int .u32 (gd W (((gd A ((p).toNat))).toNat))),(7,i6 0),(30,.bool false)] rfl Ae ?_
 refine Lc (base:=n) (e:=3) (sz:=1) (cells:=(fun x:Int=>[i6 x])) (a:=aO) (n:=nP) (cap:=cO) (xs:=O) 2 (by omega) (fun b28 hg29 hb30 => ?_)
 subst hg29
 by_cases h31:((gd W (((gd A ((p).toNat))).toNat)):Int)<(gd O ((p).toNat))
 ·refine Au 9 0 [0] [[o0,(ov (.int .u64 (gd W (((gd A ((p).toNat))).toNat)))),o0,o0,o0,(a1 1),o0,(oi ((p).toNat)),(oa [.via 2 (i6 (gd O ((p).toNat)))]),(ov (.int .u64 (gd O ((p).toNat)))),oF,o0]] [Value.int .u64 (IntKind.u64.wrap ((gd W (((gd A ((p).toNat))).toNat))))=Value.int .u64 ((gd W (((gd A ((p).toNat))).toNat))),Qb dp,(p:Int)=(((p).toNat:Nat):Int),(p).toNat<nP,Ce,∀ w',Ch.holds (UM nP cO n b28 O) w'→w'.cell? ⟨b28,0+(p).toNat,none⟩=some (i6 (gd O ((p).toNat))),Value.int .u64 (IntKind.u64.wrap ((gd O ((p).toNat))))=Value.int .u64 ((gd O ((p).toNat))),BF (((gd W (((gd A ((p).toNat))).toNat)):Int)≥(gd O ((p).toNat)))] [(KF dp),(KA mq),(2,i6 p),(9,.int .u32 (gd W (((gd A ((p).toNat))).toNat))),(34,.bool false)] rfl ⟨congrArg (Value.int .u64) (Y7 rfl (by omega) (by omega)),rfl,(by omega),(by omega),rfl,Fp (sz:=1) (j:=(p).toNat) (k:=0) (fun _=>rfl) (by first | omega | (simp only[List.length_cons,List.length_nil];omega) | (rw[Ky];omega) | (rw[List.length_set];omega) | (rw[List.length_set,Ky];omega)) rfl,congrArg (Value.int .u64) (Y7 rfl (by omega) (by omega)),bf,Ae⟩ ?_
  have hv32:=hD.aI ((p).toNat) (by omega);have hv33:=hD.oI ((p).toNat) (by omega);have hv34:=hD.wI (gd A ((p).toNat)).toNat (by omega)
  refine Bq 0 10 [] [[o0,o0,o0,o0,(a1 1),o0,(oi ((p).toNat)),(oa [.via 3 (i6 (gd A ((p).toNat)))]),o0,(ov (.int .u32 ((gd W (((gd A ((p).toNat))).toNat))+1)))]] [Qb dp,(p:Int)=(((p).toNat:Nat):Int),(p).toNat<nP,Ce,∀ w',Ch.holds (Uo nP cA n b15 A) w'→w'.cell? ⟨b15,0+(p).toNat,none⟩=some (i6 (gd A ((p).toNat))),Value.int .u32 (IntKind.u32.wrap (((gd W (((gd A ((p).toNat))).toNat)):Int)+1))=Value.int .u32 ((gd W (((gd A ((p).toNat))).toNat))+1)] [(46,pt mq),(53,i6 (gd A ((p).toNat))),(55,.int .u32 ((gd W (((gd A ((p).toNat))).toNat))+1))] rfl ⟨rfl,(by omega),(by omega),rfl,Fp (sz:=1) (j:=(p).toNat) (k:=0) (fun _=>rfl) (by first | omega | (simp only[List.length_cons,List.length_nil];omega) | (rw[Ky];omega) | (rw[List.length_set];omega) | (rw[List.length_set,Ky];omega)) rfl,congrArg (Value.int .u32) (wr_u32 (by omega) (by omega) (by omega)),Ae⟩ ?_
  refine l_call [] [] 28 #[pt mq,i6 (gd A ((p).toNat)),.int .u32 ((gd W (((gd A ((p).toNat))).toNat))+1)] (some 56) Ae ?_
  intro w35 hw35
  refine Cb (args:=[pt mq,i6 (gd A ((p).toNat)),.int .u32 ((gd W (((gd A ((p).toNat))).toNat))+1)]) 21 ⟨w,n3,[(old S0 w),(bk dp #[i6 fr,.slice (some ⟨b28,0,none⟩) nP cO,.slice (some ⟨b15,0,none⟩) nP cA,ms] 68),(UM nP cO n b28 O),(Uo nP cA n b15 A),(bk mq #[.slice (some ⟨b24,0,none⟩) nW cW] 81),(YK nW cW n2 b24 W),(NC z p)]⟩ Tryd.func28 rfl (by kernel_rfl) (by kernel_rfl) hw35 ?_
  refine Au 6 2 [] [[o0],[o0,o0]] [] [(0,pt mq),(1,i6 (gd A ((p).toNat))),(2,.int .u32 ((gd W (((gd A ((p).toNat))).toNat))+1)),(8,pt mq),(9,i6 (gd A ((p).toNat)))] rfl Ae ?_
  refine l_call [] [] 52 #[pt mq,i6 (gd A ((p).toNat)),i6 1] (some 10) Ae ?_
  intro w36 hw36
  refine Cb (args:=[pt mq,i6 (gd A ((p).toNat)),i6 1]) 35 ⟨w,n3,[(old S0 w),(bk dp #[i6 fr,.slice (some ⟨b28,0,none⟩) nP cO,.slice (some ⟨b15,0,none⟩) nP cA,ms] 68),(UM nP cO n b28 O),(Uo nP cA n b15 A),(bk mq #[.slice (some ⟨b24,0,none⟩) nW cW] 81),(YK nW cW n2 b24 W),(NC z p)]⟩ Tryd.func52 rfl (by kernel_rfl) (by kernel_rfl) hw36 ?_
  refine Au 25 0 [0,0] [[o0],[o0,o0],[o0,oF,o0,o0,o0,o0,o0,o0,o0,o0,o0,(a1 4),o0,oF,o0,o0,o0,o0,o0,o0,(a1 4),o0,o0,(ov (i6 ((nW:Int) - (gd A ((p).toNat))))),oF,o0],[o0]] [BF (((gd A ((p).toNat)):Int)<0),Qb mq,BF (((gd A ((p).toNat)):Int) > (nW:Int)),Qb mq,Wr ((nW:Int) - (gd A ((p).toNat))) ((nW:Int) - (gd A ((p).toNat))),BF ((1:Int) > ((nW:Int) - (gd A ((p).toNat))))] [(6,i6 0)] rfl ⟨bf,rfl,bf,rfl,BQ,bf,Ae⟩ ?_
  refine Az [] [] (i6 0) Ae ?_
  intro w37 hw37
  refine⟨_,_,rfl,hw37, ?_⟩
  refine Bq 9 7 [1] [[o0],[o0,o0],[o0,o0,o0,(a1 4),o0,o0,(oi (((gd A ((p).toNat))).toNat))]] [Qb mq,((gd A ((p).toNat)):Int)=((((gd A ((p).toNat))).toNat:Nat):Int),((gd A ((p).toNat))).toNat<nW,Ce] [(7,i6 0),(18,.int .u32 ((gd W (((gd A ((p).toNat))).toNat))+1)),(19,.pointer (some ⟨b24,0+((gd A ((p).toNat))).toNat,none⟩))] rfl ⟨rfl,(by omega),(by omega),rfl,Ae⟩ ?_
  refine Ou 5 (((gd A ((p).toNat))).toNat) 0 W ((gd W (((gd A ((p).toNat))).toNat))+1) (fun x:Int=>[Value.int .u32 x]) n2 54 1 b24 nW cW (.int .u32 ((gd W (((gd A ((p).toNat))).toNat))+1)) none (by first | omega | (simp only[List.length_cons,List.length_nil];omega) | (rw[Ky];omega) | (rw[List.length_set];omega) | (rw[List.length_set,Ky];omega)) rfl ?_
  refine Bq 7 0 [] [[],[o0,o0]] [] [(6,i6 0)] rfl Ae ?_
  refine Az [] [] (i6 0) Ae ?_
  intro w38 hw38
  refine⟨_,_,rfl,hw38, ?_⟩
  refine Bq 3 0 [] [[o0,o0]] [] [(6,i6 0),(7,i6 0)] rfl Ae ?_
  refine Az [] [] (.tuple #[i6 0,i6 0]) Ae ?_
  intro w39 hw39
  have h4:=hw39.pick [1,2,3,4,5] rfl rfl
  (try dsimp only[O0,Nv,NC,YK,Uo,UM,Ny,Nc,O1,Qe,KF,KA]at h4)
  (unfold RV;rw[if_pos (show 0≤p∧p<(A.length:Int)from⟨by omega,by omega⟩),if_neg (show ¬ gd O p.toNat≤gd W (gd A p.toNat).toNat from by omega)];exact⟨rfl,by rw[hw39.size];exact h4,Sat.back hw39 rfl (show w.heap.size≤n3 by omega) (List.mem_cons_self ..)⟩)
 refine Au 9 0 [1] [[o0,(ov (.int .u64 (gd W (((gd A ((p).toNat))).toNat)))),o0,o0,o0,(a1 1),o0,(oi ((p).toNat)),(oa [.via 2 (i6 (gd O ((p).toNat)))]),(ov (.int .u64 (gd O ((p).toNat)))),oT,o0],[o0,o0]] [Value.int .u64 (IntKind.u64.wrap ((gd W (((gd A ((p).toNat))).toNat))))=Value.int .u64 ((gd W (((gd A ((p).toNat))).toNat))),Qb dp,(p:Int)=(((p).toNat:Nat):Int),(p).toNat<nP,Ce,∀ w',Ch.holds (UM nP cO n b28 O) w'→w'.cell? ⟨b28,0+(p).toNat,none⟩=some (i6 (gd O ((p).toNat))),Value.int .u64 (IntKind.u64.wrap ((gd O ((p).toNat))))=Value.int .u64 ((gd O ((p).toNat))),BT (((gd W (((gd A ((p).toNat))).toNat)):Int)≥(gd O ((p).toNat)))] [(6,i6 5),(7,i6 0)] rfl ⟨congrArg (Value.int .u64) (Y7 rfl (by omega) (by omega)),rfl,(by omega),(by omega),rfl,Fp (sz:=1) (j:=(p).toNat) (k:=0) (fun _=>rfl) (by first | omega | (simp only[List.length_cons,List.length_nil];omega) | (rw[Ky];omega) | (rw[List.length_set];omega) | (rw[List.length_set,Ky];omega)) rfl,congrArg (Value.int .u64) (Y7 rfl (by omega) (by omega)),bt,Ae⟩ ?_
 refine Az [] [] (.tuple #[i6 5,i6 0]) Ae ?_
 intro w40 hw40
 have h4:=hw40.pick [1,2,3,4,5] rfl rfl
 (try dsimp only[O0,Nv,NC,UM,Ny,Nc,O1,Qe,KF,KA]at h4)
 (unfold RV;rw[if_pos (show 0≤p∧p<(A.length:Int)from⟨by omega,by omega⟩),if_pos (show gd O p.toNat≤gd W (gd A p.toNat).toNat from by omega)];exact⟨rfl,by rw[hw40.size];exact h4,Sat.back hw40 rfl (show w.heap.size≤n3 by omega) (List.mem_cons_self ..)⟩)
end Go.Proofs.YtjdmhijaanmccaaDoor.Dv
