/- Packed: Li, Lz, Ah, Ai, Aj, EngX, Ak, EngZ, Ao, Ap, EngT, EngAa, EngAc, EngAd, Ha, Aq, Hb, EngR, EngS. No conditions. -/
import Derived.Test.YtlccogilgegnfaaDoorPb3
import Derived.Lib.SlBytesConst
set_option maxHeartbeats 4000000
namespace Go.Proofs.YtlccogilgegnfaaDoor.Ly
open Go Go.Proofs.YtlccogilgegnfaaDoor.Eng Go.Proofs.YtlccogilgegnfaaDoor.Mem
set_option linter.unusedSimpArgs false
set_option linter.unusedVariables false
set_option maxRecDepth 100000
theorem RV{c:Ai}{i:Nat}:Ec c (i+1)=Ec c i+1+(Jz (gd c.Aa.xs i):Int):=rfl
theorem tAt_zero{c:Ai}:Ec c 0=(CX c c.Aj.xs.length+16 - 1) / 16:=rfl
theorem Zar{n:Nat}{x:Aq}(h:Ei n x=true):∀ i,i<x.Ah.xs.length→KF (gd x.Ah.xs i)=true:=fun i hi=>by
 rw[EW hi];exact List.all_eq_true.1 (part_regs h).2 _ (List.getElem_mem hi)
theorem can_yes(w:World)(c:Ai)(hc:Ai.ok Any w c)(h:Ep c=true):Calls Tryd.prog 44 #[.agg (Ai.arr c)] w fun e w'=>e = .returned (.bool true)∧Ce (fun _=>False) w w':=by
 have:=Zba w c hc
 rwa [h]at this
theorem can_no(w:World)(c:Ai)(hc:Ai.ok Any w c)(h:Ep c=false):Calls Tryd.prog 44 #[.agg (Ai.arr c)] w fun e w'=>e = .returned (.bool false)∧Ce (fun _=>False) w w':=by
 have:=Zba w c hc
 rwa [h]at this
def layS(n:Nat)(L:Ha):List Ch:=[BV n 65 5 Ar.cells L.Aa.val L.Aa.xs,BV n 95 5 AA.cells L.Aj.val L.Aj.xs,Ja n 103 3 BH.cells (L.Aj.xs.map AA.DK),Ja n 3 1 (fun x:Int=>[Value.int .i64 x]) (L.Aa.xs.map Ar.Tables)]
def Xu(n:Nat)(W:World)(L:Ha):Prop:=∃ w0,Sat ⟨w0,W.heap.size,layS n L⟩ W
theorem Yc{c:Ai}{k:Int}{b:Bool}(hp:∀ i,i<c.Aa.xs.length→(gd c.Aa.xs i).Ap.xs.length≤8)(h8:c.Aa.xs.length≤8):∀ y∈CB c k b,0≤y.partition∧y.partition<8∧0≤y.port∧y.port<8:=by
 intro y hy
 unfold CB Dn at hy
 simp only[List.mem_flatMap,List.mem_range]at hy
 obtain⟨p,hpl,hy⟩:=hy
 unfold CQ at hy
 simp only[List.mem_map,List.mem_filter,List.mem_range]at hy
 obtain⟨q,⟨hq, -⟩,rfl⟩:=hy
 have:=hp p hpl
 simp only
 omega
theorem Qj{x:Int}(h:0≤x)(h2:x≤1000000):IG .i64 x:=⟨by omega,by omega⟩
theorem Wx{F:Nat→Prop}{W:World}{c:Ai}{k:Int}{b:Bool}(hf:Fine c):∀ i,i<(CB c k b).length→Gs.ok F W (gd (CB c k b) i):=fun i hi=>by
 have:=Yc (k:=k) (b:=b) (fun i hi=>O6 (hf.parts i hi)) hf.pn (gd (CB c k b) i) (by rw[EW hi];exact List.getElem_mem _)
 exact⟨Qj (by omega) (by omega),Qj (by omega) (by omega)⟩
theorem fam_sl{α:Type}{base:Nat}{e:TypeId}{sz:Nat}{cells:α→List Value}{hs:List (Sl α)}{W:World}(hsz:∀ x,(cells x).length=sz)(h:(Ja base e sz cells hs).holds W){s:Sl α}(hs':s∈hs)(hl:s.xs.length≤140737488351232):PW cells sz (New base) W s:=Tz hsz (h.1 s hs') hl
theorem lay_ok{c:Ai}{n:Nat}{W:World}{L:Ha}(hf:Fine c)(hL:WF c L)(ho:Xu n W L):Ha.ok (New n) W L:=by
 obtain⟨w0,hs⟩:=ho
 have h0:W.ownsRow n 65 5 L.Aa.val L.Aa.xs.length (L.Aa.xs.flatMap Ar.cells):=hs.at (i:=0) rfl
 have h1:W.ownsRow n 95 5 L.Aj.val L.Aj.xs.length (L.Aj.xs.flatMap AA.cells):=hs.at (i:=1) rfl
 have h2:(Ja n 103 3 BH.cells (L.Aj.xs.map AA.DK)).holds W:=hs.at (i:=2) rfl
 have h3:(Ja n 3 1 (fun x:Int=>[Value.int .i64 x]) (L.Aa.xs.map Ar.Tables)).holds W:=hs.at (i:=3) rfl
 have hkn:=hf.kn;have hpn:=hf.pn;have hcn:=hf.cn
 refine⟨Qj (by rw[hL.bar];omega) (by rw[hL.bar];omega),⟨Tz (fun _=>rfl) h0 (by rw[hL.pl];omega), ?_⟩,⟨Tz (fun _=>rfl) h1 (by rw[hL.cl];omega), ?_⟩, ?_⟩
 ·intro i hi
  have hi':i<c.Aa.xs.length:=by rw[←hL.pl];exact hi
  obtain⟨a,cp,e⟩:=hL.ps i hi'
  have ht:=RF hf i (by omega)
  have hn:=UD (gd c.Aa.xs i)
  have hm:(gd L.Aa.xs i).Tables∈L.Aa.xs.map Ar.Tables:=List.mem_map_of_mem (by rw[EW hi];exact List.getElem_mem hi)
  have hsl:=fam_sl (by intro _;rfl) h3 hm (by rw[e];simp only[GU,WG];omega)
  rw[e]at hsl ⊢
  refine⟨Qj (by simp only[GU,CV];omega) (by simp only[GU,CV];omega),Qj (by simp only[GU,CV];omega) (by simp only[GU,CV];omega),Qj (by simp only[GU,CV];omega) (by simp only[GU,CV];omega),Qj (by simp only[GU];omega) (by simp only[GU];omega),hsl, ?_⟩
  intro q hq
  have hq':q<Jz (gd c.Aa.xs i):=by simpa only[GU,WG]using hq
  show IG .i64 (gd _ _)
  have:gd (GU c i ⟨a,cp,FP c i (Jz (gd c.Aa.xs i))⟩).Tables.xs q=Ec c i+1+(q:Int):=gd_map hq'
  rw[this]
  exact Qj (by omega) (by omega)
 ·intro k hk
  have hk':k<c.Aj.xs.length:=by rw[←hL.cl];exact hk
  obtain⟨a,cp,e⟩:=hL.cs k hk'
  have hb:=QW hf k (by omega)
  have hd:=hf.Yk hk'
  have hp0:CV c c.Aa.xs.length=c.Kernel*16+2+24*(c.Aa.xs.length:Int):=rfl
  have hpp:∀ i,i<c.Aa.xs.length→(gd c.Aa.xs i).Ap.xs.length≤8:=fun i hi=>O6 (hf.parts i hi)
  have hm:(gd L.Aj.xs k).DK∈L.Aj.xs.map AA.DK:=List.mem_map_of_mem (by rw[EW hk];exact List.getElem_mem hk)
  have hsl:=fam_sl (by intro _;rfl) h2 hm (by rw[e];simp only[JV,Vm];omega)
  have h1p:0<(CB c (k:Int) true).length:=by omega
  have hsrc:=Yc (k:=(k:Int)) (b:=true) hpp hpn (gd (CB c (k:Int) true) 0) (by rw[EW h1p];exact List.getElem_mem _)
  rw[e]at hsl ⊢
  refine⟨Qj (by simp only[JV];omega) (by simp only[JV];omega),Qj (by simp only[JV];omega) (by simp only[JV];omega),Qj (by simp only[JV];omega) (by simp only[JV];omega),Qj (by simp only[JV];omega) (by simp only[JV];omega),hsl, ?_⟩
  intro q hq
  have hq':q<KD c k:=by simpa only[JV,Vm]using hq
  have e2:gd (JV c k ⟨a,cp,Fp c k (KD c k)⟩).DK.xs q=Qq c k q:=gd_map hq'
  have hdst:=Yc (k:=(k:Int)) (b:=false) hpp hpn (gd (CB c (k:Int) false) q) (by rw[EW hq'];exact List.getElem_mem _)
  have hdb:=dAt_bd hf hk' (show q≤4 by omega)
  rw[e2]
  exact⟨Qj (by simp only[Qq];omega) (by simp only[Qq];omega),Qj (by simp only[Qq];omega) (by simp only[Qq];omega),Qj (by simp only[Qq];omega) (by simp only[Qq];omega)⟩
 have:=RF hf _ (Nat.le_refl _)
 exact Qj (by rw[hL.fin];omega) (by rw[hL.fin];omega)
theorem of_no(w:World)(c:Ai)(hc:Ai.ok Any w c)(hok:Ep c=false):Calls Tryd.prog 30 #[.agg (Ai.arr c)] w fun e w'=>e = .returned (.tuple #[.agg #[.int .i64 0,.slice none 0 0,.slice none 0 0,.int .i64 0],.int .i64 150])∧Ce (fun _=>False) w w':=by
 obtain⟨z,hz⟩:∃ z,z=w.heap.size:=⟨_,rfl⟩
 refine Bf (args:=[.agg (Ai.arr c)]) 148 ⟨w,z,[(Ak w)]⟩ Tryd.func30 rfl (by kernel_rfl) (by kernel_rfl) (Ed hz) ?_
 refine Di [0] [(0,.agg (Ai.arr c))] ?_
 refine q_c 7 1 [] [[o0,o0,o0],[(an 7 1)]] [Qb z,Qb z,Qb z,Qb z,Qb z,Qb z,Qb z] [(1,pt z),(2,pt (z+1)),(16,.agg (Ai.arr c))] ⟨w,z+2,[(Ak w),(bk z (Ai.arr c) 26),(bk (z+1) #[i6 0,.slice none 0 0,.slice none 0 0,i6 0] 58)]⟩ rfl ⟨rfl,rfl,rfl,rfl,rfl,rfl,rfl,Ae⟩ ?_
 refine Ba 44 #[.agg (Ai.arr c)] (some 17) (.bool false) (fun w1 hw1=>can_no w1 c (hc.ext (hw1.ext rfl) (fun _ h=>h)) hok) (fun n2 (hn3:z+2≤n2) => ?_)
 refine AZ 8 0 [1] [[o0],[o0,(an 4 2),o0]] [Qb (z+1),Qb (z+1),Qb (z+1),Qb (z+1)] [(2,pt (z+1)),(3,i6 150)] rfl ⟨rfl,rfl,rfl,rfl,Ae⟩ ?_
 refine Az [.at 2,.at 2,.at 2,.at 2] [Qb (z+1),Qb (z+1),Qb (z+1),Qb (z+1)] (.tuple #[.agg #[i6 0,.slice none 0 0,.slice none 0 0,i6 0],i6 150]) ⟨rfl,rfl,rfl,rfl,Ae⟩ ?_
 intro w4 hw4
 exact⟨rfl,AB hw4⟩
section
variable (n2:Nat)(c:Ai)(aP:Option Addr)(i cP:Nat)(ax100:Option Addr)(csG:List AA)(k:Nat)(y48:Gs)(aD:Option Addr)(cD j cp101:Nat)(ax20:Option Addr)(cp21 b50:Nat)(ax96:Option Addr)(y89:Gs)(cp97 n80:Nat)(w55 w36:World)(b119:Nat)(psG:List Ar)(cP2:Nat)(aC:Option Addr)(cC n9:Nat)(aP2:Option Addr)(w91:World)(z:Nat)(y34:Be)(n25 p:Nat)(t n109:Nat)(y118:Aq)(aT:Option Addr)(cT:Nat)(ax134:Option Addr)(cp135 b111:Nat)(o112 b82:Nat)(o83 cp40:Nat)(b27 o28:Nat)(ax39:Option Addr)(w:World)
abbrev Xl:=bk (n2+1) #[i6 (c.Kernel*16),.slice aP ((IM c i).length) cP,.slice ax100 ((csG++[(⟨CX c k,(CX c k)+2,y48.partition,y48.port,(⟨aD,cD,Fp c k j⟩:Sl BH)⟩:AA)]).length) cp101,i6 0] 58
abbrev WN:Ch:= .blk (n2+1) (.cells #[i6 (c.Kernel*16),.slice ax20 ((IM c i++[(⟨CV c i,(CV c i)+2,((CV c i)+2)+17,0,(⟨none,0,[]⟩:Sl Int)⟩:Ar)]).length) cp21,.slice none 0 0,i6 0] 58 (0,0)) true
abbrev U6:=bk b50 #[i6 (CX c k),i6 ((CX c k)+2),i6 y48.partition,i6 y48.port,.slice ax96 ((Fp c k j++[(⟨y89.partition,y89.port,IE c k j⟩:BH)]).length) cp97] 95
abbrev Jv:=bk b50 #[i6 (CX c k),i6 ((CX c k)+2),i6 y48.partition,i6 y48.port,.slice aD ((Fp c k j).length) cD] 95
abbrev XG:=bk n80 #[i6 (CX c k),i6 ((CX c k)+2),i6 y48.partition,i6 y48.port,.slice aD ((Fp c k j).length) cD] 95
abbrev qzm6_5:Ch:= .blk w55.heap.size (.cells #[i6 (CX c k),i6 ((CX c k)+2),i6 y48.partition,i6 y48.port,.slice none 0 0] 95 (0,0)) true
abbrev qzm6_6:Ch:= .blk w36.heap.size (.cells #[i6 (CX c k),i6 ((CX c k)+2),i6 y48.partition,i6 y48.port,.slice none 0 0] 95 (0,0)) true
abbrev L9:=bk (n2+1) #[i6 (c.Kernel*16),.slice (some ⟨b119,0,none⟩) psG.length cP2,.slice aC csG.length cC,i6 0] 58
abbrev XL:=bk n9 #[i6 (CV c i),i6 ((CV c i)+2),i6 (((CV c i)+2)+17),i6 0,.slice none 0 0] 65
abbrev EO:=bk (n2+1) #[i6 (c.Kernel*16),.slice aP ((IM c i).length) cP,.slice aC csG.length cC,i6 0] 58
abbrev Hr:=bk (n2+1) #[i6 (c.Kernel*16),.slice aP ((IM c i).length) cP,.slice none 0 0,i6 0] 58
abbrev PN:=bk (n2+1) #[i6 (c.Kernel*16),.slice aP2 psG.length cP2,.slice aC csG.length cC,i6 0] 58
abbrev Y0:Ch:= .blk w55.heap.size (.cells #[i6 0,i6 0,i6 0,i6 0,.slice none 0 0] 95 (0,0)) true
abbrev V4:Ch:= .blk w36.heap.size (.cells #[i6 0,i6 0,i6 0,i6 0,.slice none 0 0] 95 (0,0)) true
abbrev SK:Ch:= .blk w91.heap.size (.cells #[i6 y89.partition,i6 y89.port,i6 (IE c k j)] 103 (0,0)) true
abbrev CJ:=bk (z+1) #[i6 0,.slice none 0 0,.slice none 0 0,i6 0] 58
abbrev IJ:=bk n2 #[i6 (((CX c k)+2)+(BL y34))] 3
abbrev SE:=bk n25 #[i6 ((Ec c p+1+(t:Int))+1)] 3
abbrev Sr:=bk n2 #[i6 ((((CV c i)+2)+17)+5)] 3
abbrev PP:=bk n2 #[i6 ((IE c k j)+(portOf y34))] 3
abbrev Q8:=bk n25 #[i6 (Ec c p+1+(t:Int))] 3
abbrev VU:=bk n2 #[i6 ((CX c k)+2)] 3
abbrev IV:=bk n2 #[i6 (IE c k j)] 3
abbrev Kv:=bk n109 (Aq.arr y118) 35
abbrev Og:=bk n25 #[i6 (Ec c p)] 3
abbrev Fh:=bk n2 #[i6 (CX c k)] 3
abbrev E5:=bk n25 (Be.arr y34) 123
abbrev O3:=bk n80 (Gs.arr y89) 139
abbrev CG:=bk z (Ai.arr c) 26
abbrev V7:=BV z 65 5 Ar.cells (.slice (some ⟨b119,0,none⟩) psG.length cP2) ((psG.set p (⟨CV c p,CV c p+2,CV c p+2+17,Ec c p,(⟨aT,cT,FP c p t⟩:Sl Int)⟩:Ar)).set p (⟨CV c p,CV c p+2,CV c p+2+17,Ec c p,(⟨ax134,cp135,((FP c p t)++[Ec c p+1+(t:Int)])⟩:Sl Int)⟩:Ar))
abbrev VV:=BV z 95 5 AA.cells (.slice ax100 ((csG++[(⟨CX c k,(CX c k)+2,y48.partition,y48.port,(⟨aD,cD,Fp c k j⟩:Sl BH)⟩:AA)]).length) cp101) (csG++[(⟨CX c k,(CX c k)+2,y48.partition,y48.port,(⟨aD,cD,Fp c k j⟩:Sl BH)⟩:AA)])
abbrev VX:=BV z 65 5 Ar.cells (.slice ax20 ((IM c i++[(⟨CV c i,(CV c i)+2,((CV c i)+2)+17,0,(⟨none,0,[]⟩:Sl Int)⟩:Ar)]).length) cp21) (IM c i++[(⟨CV c i,(CV c i)+2,((CV c i)+2)+17,0,(⟨none,0,[]⟩:Sl Int)⟩:Ar)])
abbrev SI:=BV z 103 3 BH.cells (.slice ax96 ((Fp c k j++[(⟨y89.partition,y89.port,IE c k j⟩:BH)]).length) cp97) (Fp c k j++[(⟨y89.partition,y89.port,IE c k j⟩:BH)])
abbrev Nw:=BV z 65 5 Ar.cells (.slice (some ⟨b119,0,none⟩) psG.length cP2) (psG.set p (⟨CV c p,CV c p+2,CV c p+2+17,Ec c p,(⟨aT,cT,FP c p t⟩:Sl Int)⟩:Ar))
abbrev QN:=BV z 3 1 (fun x:Int=>[i6 x]) (.slice aT ((FP c p t).length) cT) (FP c p t)
abbrev Jp:=Ja z 3 1 (fun x:Int=>[i6 x]) ((psG.take p).map Ar.Tables)
abbrev DL:=BV z 65 5 Ar.cells (.slice aP ((IM c i).length) cP) (IM c i)
abbrev IW:=BV z 103 3 BH.cells (.slice aD ((Fp c k j).length) cD) (Fp c k j)
abbrev Pi:=BV z 65 5 Ar.cells (.slice aP2 psG.length cP2) psG
abbrev DI:=BV z 95 5 AA.cells (.slice aC csG.length cC) csG
abbrev DC:=Ja z 103 3 BH.cells (csG.map AA.DK)
abbrev Yd:D7:=(42,.slice ax20 ((IM c i++[(⟨CV c i,(CV c i)+2,((CV c i)+2)+17,0,(⟨none,0,[]⟩:Sl Int)⟩:Ar)]).length) cp21)
abbrev VT:D7:=(73,.agg #[i6 (CX c k),i6 ((CX c k)+2),i6 y48.partition,i6 y48.port,.slice none 0 0])
abbrev Hg:D7:=(109,.slice (some ⟨b111,o112,none⟩) c.Aa.xs.length c.Aa.cap)
abbrev KN:D7:=(74,.slice (some ⟨b82,o83,none⟩) ((CB c (k:Int) false).length) cp40)
abbrev D5:D7:=(46,.slice (some ⟨b27,o28,none⟩) c.Aj.xs.length c.Aj.cap)
abbrev Nv:D7:=(109,.slice c.Aa.a c.Aa.xs.length c.Aa.cap)
abbrev GG:=(75,i6 (((CB c (k:Int) false).length:Nat):Int))
abbrev IY:D7:=(46,.slice c.Aj.a c.Aj.xs.length c.Aj.cap)
abbrev FX:D7:=(13,.func (.func 78) #[] #[pt n25])
abbrev OX:D7:=(61,.func (.func 78) #[] #[pt n2])
abbrev Cj:D7:=(4,.func (.func 78) #[] #[pt n2])
abbrev J5:D7:=(74,.slice ax39 ((CB c (k:Int) false).length) cp40)
abbrev EH:D7:=(9,.slice ax39 ((CB c (k:Int) false).length) cp40)
abbrev FZ:=(110,Ac c.Aa.xs.length)
abbrev FV:=(29,Ac c.Aa.xs.length)
abbrev Dl:=(47,Ac c.Aj.xs.length)
abbrev QI:=(10,pt w55.heap.size)
abbrev MP:=(10,pt w36.heap.size)
abbrev JL:=(124,i6 ((Jz y118:Nat):Int))
abbrev SG:D7:=(33,.slice aP ((IM c i).length) cP)
abbrev BD:=(5,pt (n2+1))
abbrev BA:=(2,pt (z+1))
abbrev Gz:=(10,pt b50)
abbrev DJ:=(7,pt n25)
abbrev QE:=[(Ak w),(CG c z),(CJ z),(Fh n2 c k),(L9 n2 c csG b119 psG cP2 aC cC),(Nw c b119 psG cP2 z p t aT cT),(DC csG z),(DI csG aC cC z),(Q8 c n25 p t),(Jp psG z p),(Kv n109 y118),(QN c z p t aT cT)]
abbrev TR:=[(Ak w),(CG c z),(CJ z),(IJ n2 c k y34),(EO n2 c aP i cP csG aC cC),(DL c aP i cP z),(DC csG z),(DI csG aC cC z),(E5 y34 n25),(mid (n25+1) w36),(qzm6_5 c k y48 w55)]
abbrev Ul:=[(Ak w),(CG c z),(CJ z),(IJ n2 c k y34),(EO n2 c aP i cP csG aC cC),(DL c aP i cP z),(DC csG z),(DI csG aC cC z),(E5 y34 n25),(mid (n25+1) w36),(qzm6_6 c k y48 w36)]
abbrev Yp:=[(Ak w),(CG c z),(CJ z),(VU n2 c k),(EO n2 c aP i cP csG aC cC),(DL c aP i cP z),(DC csG z),(DI csG aC cC z),(E5 y34 n25),(mid (n25+1) w36),(V4 w36)]
abbrev Pj:=[(Ak w),(CG c z),(CJ z),(Fh n2 c k),(PN n2 c csG psG cP2 aC cC aP2),(Pi psG cP2 aP2 z),(DC csG z),(DI csG aC cC z),(Og c n25 p),(Jp psG z p)]
abbrev Ji:=[(Ak w),(CG c z),(CJ z),(Fh n2 c k),(EO n2 c aP i cP csG aC cC),(DL c aP i cP z),(DC csG z),(DI csG aC cC z)]
abbrev IU:=[(Ak w),(CG c z),(CJ z),(bk n2 #[i6 (CV c i)] 3),(Hr n2 c aP i cP),(DL c aP i cP z)]
end
theorem of_yes(w:World)(c:Ai)(hc:Ai.ok Any w c)(hok:Ep c=true):Calls Tryd.prog 30 #[.agg (Ai.arr c)] w fun e w'=>∃ L:Ha,e = .returned (.tuple #[.agg (Ha.arr L),.int .i64 0])∧WF c L∧Ha.ok (New w.heap.size) w' L∧Xu w.heap.size w' L∧Ce (fun _=>False) w w':=by
 obtain⟨z,hz⟩:∃ z,z=w.heap.size:=⟨_,rfl⟩
 refine Bf (args:=[.agg (Ai.arr c)]) 148 ⟨w,z,[(Ak w)]⟩ Tryd.func30 rfl (by kernel_rfl) (by kernel_rfl) (Ed hz) ?_
 have hfine:=Sz hok;have hkn:=hfine.kn;have hpn:=hfine.pn;have hcn:=hfine.cn
 refine Di [0] [(0,.agg (Ai.arr c))] ?_
 refine q_c 7 1 [] [[o0,o0,o0],[(an 7 1)]] [Qb z,Qb z,Qb z,Qb z,Qb z,Qb z,Qb z] [(1,pt z),(BA z),(16,.agg (Ai.arr c))] ⟨w,z+2,[(Ak w),(CG c z),(CJ z)]⟩ rfl ⟨rfl,rfl,rfl,rfl,rfl,rfl,rfl,Ae⟩ ?_
 refine Ba 44 #[.agg (Ai.arr c)] (some 17) (.bool true) (fun w1 hw1=>can_yes w1 c (hc.ext (hw1.ext rfl) (fun _ h=>h)) hok) (fun n2 (hn3:z+2≤n2) => ?_)
 refine AZ 7 3 [0] [[o0],[o0,(a1 1),(ov (i6 (c.Kernel*16)))]] [Qb z,Wr ((c.Kernel:Int)*16) (c.Kernel*16)] [(1,pt z),(BA z),(22,i6 (c.Kernel*16))] rfl ⟨rfl,BP,Ae⟩ ?_
 refine l_call [] [] 45 #[i6 (c.Kernel*16)] (some 23) Ae ?_
 intro w4 hw4
 refine Bf (args:=[i6 (c.Kernel*16)]) 4 ⟨w,n2,[(Ak w),(CG c z),(CJ z)]⟩ Tryd.func45 rfl (by kernel_rfl) (by kernel_rfl) hw4 ?_
 refine q_c 9 0 [] [[o0,o0],[o0,o0]] [] [(2,.func (.func 78) #[] #[pt n2])] ⟨w,n2+1,[(Ak w),(CG c z),(CJ z),(bk n2 #[i6 (c.Kernel*16)] 3)]⟩ rfl Ae ?_
 refine Az [] [] (.func (.func 78) #[] #[pt n2]) Ae ?_
 intro w5 hw5
 refine⟨_,_,rfl,hw5, ?_⟩
 refine AZ 4 1 [] [[o0],[o0]] [] [(1,pt z),(BA z),(Cj n2),(24,.func (.func 78) #[] #[pt n2])] rfl Ae ?_
 refine l_call [] [] 78 #[i6 2,pt n2] (some 25) Ae ?_
 intro w6 hw6
 refine Bf (args:=[i6 2,pt n2]) 10 ⟨w,n2+1,[(Ak w),(CG c z),(CJ z),(bk n2 #[i6 (c.Kernel*16)] 3)]⟩ Tryd.func78 rfl (by kernel_rfl) (by kernel_rfl) hw6 ?_
 refine q_c 17 0 [] [[o0],[(a1 3),o0],[(a1 3),o0,(ov (i6 ((c.Kernel*16)+2))),(a1 3)],[o0,o0]] [Qb n2,Qb n2,Wr ((c.Kernel*16:Int)+2) ((c.Kernel*16)+2),Qb n2] [(3,i6 (c.Kernel*16))] ⟨w,n2+1,[(Ak w),(CG c z),(CJ z),(bk n2 #[i6 ((c.Kernel*16)+2)] 3)]⟩ rfl ⟨rfl,rfl,BP,rfl,Ae⟩ ?_
 refine Az [] [] (i6 (c.Kernel*16)) Ae ?_
 intro w7 hw7
 refine⟨_,_,rfl,hw7, ?_⟩
 refine EI 8 0 [] [[o0,o0,(an 4 4)],[o0,(a1 1),o0,o0]] [Qb (n2+1),Qb (n2+1),Qb (n2+1),Qb (n2+1),Qb z] [(1,pt z),(BA z),(Cj n2),(BD n2),(FV c),(30,i6 0)] ⟨w,n2+2,[(Ak w),(CG c z),(CJ z),(bk n2 #[i6 ((c.Kernel*16)+2)] 3),(bk (n2+1) #[i6 (c.Kernel*16),.slice none 0 0,.slice none 0 0,i6 0] 58)]⟩ rfl ⟨rfl,rfl,rfl,rfl,rfl,Ae⟩ ?_
 refine Un z 65 5 Ar.cells ?_
 refine D8 (fun m a w'=>∃ (n9:Nat) (i:Nat) (aP:Option Addr) (cP:Nat),m=c.Aa.xs.length - i∧n2+2≤n9∧(i≤c.Aa.xs.length)∧St 148 [(1,pt z),(BA z),(Cj n2),(BD n2),(FV c),(30,Ac i)] [] ⟨w,n9,(IU n2 c aP i cP z w)⟩ a w') (c.Aa.xs.length - 0) ?_ ?_
 ·intro a w' hs;exact⟨(n2+2),0,none,0,rfl,Nat.le_refl _,Nat.zero_le _,by(try dsimp only[Hr,CJ,CG,DL,Cj,FV,BD,BA,IU]at hs ⊢);rw[show CV c 0=(c.Kernel*16)+2 from by unfold CV;omega];exact hs⟩
 rintro m a w' ⟨n9,i,aP,cP,rfl,hn8,hki,hs⟩
 refine(?_:G Tryd.prog 148 [(1,pt z),(BA z),(Cj n2),(BD n2),(FV c),(30,Ac i)] [] ⟨w,n9,(IU n2 c aP i cP z w)⟩ _ _ _) a w' hs
 clear hs a w'
 have hpA:CV c i=c.Kernel*16+2+24*(i:Int):=rfl
 have hpl0:(IM c i).length=i:=WZ
 refine CW ?_
 by_cases h10:(i:Int)<(c.Aa.xs.length:Int)
 ·refine Au 9 0 [1] [[oT]] [BT ((i:Int)<(c.Aa.xs.length:Int))] [(1,pt z),(BA z),(Cj n2),(BD n2),(FV c),(30,Ac i),(31,.bool true)] rfl ⟨bt,Ae⟩ ?_
  refine DZ 12 [0,1,2,4] [(Ak w),(CG c z),(CJ z),(Hr n2 c aP i cP)] rfl rfl ?_
  refine Ci [(0,o0),(1,(a1 3)),(2,o0),(4,o0),(6,o0)] [1,2,4,5,29,30,33,34,36,38] [Qb (n2+1)] [true,true,true,false,true,false,true,false,false,false,false,false,false] [(1,pt z),(BA z),(Cj n2),(BD n2),(FV c),(30,Ac i),(SG c aP i cP),(34,.func (.func 78) #[] #[pt n2]),(36,.func (.func 78) #[] #[pt n2]),(38,.func (.func 78) #[] #[pt n2])] ⟨rfl,Ae⟩ ?_
  refine Bq 3 ?_
  refine FU [] [] 78 #[i6 2,pt n2] (some 35) (by as_aux_lemma=>kernel_rfl) rfl rfl Ae ?_
  intro w11 hw11
  refine Bf (args:=[i6 2,pt n2]) 10 ⟨w,n9,(IU n2 c aP i cP z w)⟩ Tryd.func78 rfl (by kernel_rfl) (by kernel_rfl) hw11 ?_
  refine q_c 17 0 [] [[o0],[(a1 3),o0],[(a1 3),o0,(ov (i6 ((CV c i)+2))),(a1 3)],[o0,o0]] [Qb n2,Qb n2,Wr ((CV c i:Int)+2) ((CV c i)+2),Qb n2] [(3,i6 (CV c i))] ⟨w,n9,[(Ak w),(CG c z),(CJ z),(bk n2 #[i6 ((CV c i)+2)] 3),(Hr n2 c aP i cP),(DL c aP i cP z)]⟩ rfl ⟨rfl,rfl,BP,rfl,Ae⟩ ?_
  refine Az [] [] (i6 (CV c i)) Ae ?_
  intro w12 hw12
  have hs13:=hw12
  refine⟨_,_,rfl,hs13,.inr (fun c hc=>hs13.all c (by first | exact hc | exact DW (is:=[0,1,2,4]) rfl c hc)), ?_⟩
  refine CY [1,2,4,5,29,30,33,36,38,35] [(1,pt z),(BA z),(Cj n2),(BD n2),(FV c),(30,Ac i),(SG c aP i cP),(36,.func (.func 78) #[] #[pt n2]),(38,.func (.func 78) #[] #[pt n2]),(35,i6 (CV c i))] ?_
  refine Bq 5 ?_
  refine FU [] [] 78 #[i6 17,pt n2] (some 37) (by as_aux_lemma=>kernel_rfl) rfl rfl Ae ?_
  intro w14 hw14
  refine Bf (args:=[i6 17,pt n2]) 10 ⟨w,n9,[(Ak w),(CG c z),(CJ z),(bk n2 #[i6 ((CV c i)+2)] 3),(Hr n2 c aP i cP),(DL c aP i cP z)]⟩ Tryd.func78 rfl (by kernel_rfl) (by kernel_rfl) hw14 ?_
  refine q_c 17 0 [] [[o0],[(a1 3),o0],[(a1 3),o0,(ov (i6 (((CV c i)+2)+17))),(a1 3)],[o0,o0]] [Qb n2,Qb n2,Wr (((CV c i)+2:Int)+17) (((CV c i)+2)+17),Qb n2] [(3,i6 ((CV c i)+2))] ⟨w,n9,[(Ak w),(CG c z),(CJ z),(bk n2 #[i6 (((CV c i)+2)+17)] 3),(Hr n2 c aP i cP),(DL c aP i cP z)]⟩ rfl ⟨rfl,rfl,BP,rfl,Ae⟩ ?_
  refine Az [] [] (i6 ((CV c i)+2)) Ae ?_
  intro w15 hw15
  have hs16:=hw15
  refine⟨_,_,rfl,hs16,.inr (fun c hc=>hs16.all c (by first | exact hc | exact DW (is:=[0,1,2,4]) rfl c hc)), ?_⟩
  refine CY [1,2,4,5,29,30,33,38,35,37] [(1,pt z),(BA z),(Cj n2),(BD n2),(FV c),(30,Ac i),(SG c aP i cP),(38,.func (.func 78) #[] #[pt n2]),(35,i6 (CV c i)),(37,i6 ((CV c i)+2))] ?_
  refine Bq 7 ?_
  refine FU [] [] 78 #[i6 5,pt n2] (some 39) (by as_aux_lemma=>kernel_rfl) rfl rfl Ae ?_
  intro w17 hw17
  refine Bf (args:=[i6 5,pt n2]) 10 ⟨w,n9,[(Ak w),(CG c z),(CJ z),(bk n2 #[i6 (((CV c i)+2)+17)] 3),(Hr n2 c aP i cP),(DL c aP i cP z)]⟩ Tryd.func78 rfl (by kernel_rfl) (by kernel_rfl) hw17 ?_
  refine q_c 17 0 [] [[o0],[(a1 3),o0],[(a1 3),o0,(ov (i6 ((((CV c i)+2)+17)+5))),(a1 3)],[o0,o0]] [Qb n2,Qb n2,Wr ((((CV c i)+2)+17:Int)+5) ((((CV c i)+2)+17)+5),Qb n2] [(3,i6 (((CV c i)+2)+17))] ⟨w,n9,[(Ak w),(CG c z),(CJ z),(Sr n2 c i),(Hr n2 c aP i cP),(DL c aP i cP z)]⟩ rfl ⟨rfl,rfl,BP,rfl,Ae⟩ ?_
  refine Az [] [] (i6 (((CV c i)+2)+17)) Ae ?_
  intro w18 hw18
  have hs19:=hw18
  refine⟨_,_,rfl,hs19,.inr (fun c hc=>hs19.all c (by first | exact hc | exact DW (is:=[0,1,2,4]) rfl c hc)), ?_⟩
  refine CY [1,2,4,5,29,30,33,35,37,39] [(1,pt z),(BA z),(Cj n2),(BD n2),(FV c),(30,Ac i),(SG c aP i cP),(35,i6 (CV c i)),(37,i6 ((CV c i)+2)),(39,i6 (((CV c i)+2)+17))] ?_
  refine Ci [(8,o0)] [1,2,4,5,29,30,33,40] [] (Dw 9 4) [(1,pt z),(BA z),(Cj n2),(BD n2),(FV c),(30,Ac i),(SG c aP i cP),(40,.agg #[i6 (CV c i),i6 ((CV c i)+2),i6 (((CV c i)+2)+17),i6 0,.slice none 0 0])] Ae ?_
  refine Bq 9 ?_
  refine BC o0 [1,2,4,5,29,30,33,41] [] [(1,pt z),(BA z),(Cj n2),(BD n2),(FV c),(30,Ac i),(SG c aP i cP),(41,.slice (some ⟨n9,0,none⟩) 1 1)] ⟨w,n9+1,[(Ak w),(CG c z),(CJ z),(Sr n2 c i),(Hr n2 c aP i cP),(DL c aP i cP z),(XL c i n9)]⟩ [0,1,2,4] Ae (.inr rfl) ?_
  refine Bq 10 ?_
  refine Uf z 5 6 (IM c i) [(⟨CV c i,(CV c i)+2,((CV c i)+2)+17,0,(⟨none,0,[]⟩:Sl Int)⟩:Ar)] Ar.cells 65 5 56 (.slice aP ((IM c i).length) cP) n9 1 1 #[i6 (CV c i),i6 ((CV c i)+2),i6 (((CV c i)+2)+17),i6 0,.slice none 0 0] 65 (0,0) true (some 42) [0,1,2,4] (by simp only[List.length_cons,List.length_nil];omega) (show z≤n9+1 by omega) (.inr ⟨rfl,rfl⟩) (fun ax20 cp21 n22 (hn23:n9+1≤n22) => ?_)
  refine CY [1,2,4,5,29,30,42] [(1,pt z),(BA z),(Cj n2),(BD n2),(FV c),(30,Ac i),(Yd c i ax20 cp21)] ?_
  refine Ci [(11,o0)] [1,2,4,5,29,30,42,43] [] (Dw 12 1) [(1,pt z),(BA z),(Cj n2),(BD n2),(FV c),(30,Ac i),(Yd c i ax20 cp21),(43,.pointer (some ⟨n2+1,1,none⟩))] Ae ?_
  refine Bq 12 ?_
  refine BC (a1 4) [1,2,4,5,29,30] [Qb (n2+1)] [(1,pt z),(BA z),(Cj n2),(BD n2),(FV c),(30,Ac i)] ⟨w,n22,[(Ak w),(CG c z),(CJ z),(Sr n2 c i),(WN n2 c i ax20 cp21),(VX c i ax20 cp21 z),(XL c i n9)]⟩ [] ⟨rfl,Ae⟩ (.inl rfl) ?_
  refine DX 13 [0,1,2,3,4,5,6] [(Ak w),(CG c z),(CJ z),(Sr n2 c i),(WN n2 c i ax20 cp21),(VX c i ax20 cp21 z),(XL c i n9)] rfl rfl ?_
  refine CE ?_
  refine NU 4 0 [] [[(ov (i6 ((i+1:Nat):Int))),o0]] [Wr ((i:Int)+1) (((i+1:Nat):Int))] [(1,pt z),(BA z),(Cj n2),(BD n2),(FV c),(30,i6 ((i+1:Nat):Int))] rfl ⟨BP,Ae⟩ ?_
  refine Cc [0,1,2,3,4,5] [(Ak w),(CG c z),(CJ z),(Sr n2 c i),(WN n2 c i ax20 cp21),(VX c i ax20 cp21 z)] rfl rfl ?_
  refine BI [1,2,4,5,29,30] [(1,pt z),(BA z),(Cj n2),(BD n2),(FV c),(30,i6 ((i+1:Nat):Int))] ?_
  refine BR (fun a w' hs=>⟨c.Aa.xs.length - (i+1),by omega,n22,(i+1),ax20,cp21,rfl,by omega,by omega,by(try dsimp only[WN,XL,Hr,CJ,Sr,CG,VX,DL,Yd,Cj,FV,SG,BD,BA,IU]at hs ⊢);rw[show CV c (i+1)=(((CV c i)+2)+17)+5 from by unfold CV;omega,placesUp_succ];exact hs⟩)
 refine Au 16 0 [0] [[oF],[o0,(a1 1),o0,o0]] [BF ((i:Int)<(c.Aa.xs.length:Int)),Qb z] [(1,pt z),(BA z),(Cj n2),(BD n2),(IY c),(Dl c),(48,i6 0)] rfl ⟨bf,rfl,Ae⟩ ?_
 refine g_fam0 z 103 3 BH.cells ?_
 refine Un z 95 5 AA.cells ?_
 refine D8 (fun m a w'=>∃ (n25:Nat) (k:Nat) (csG:List AA) (aC:Option Addr) (cC:Nat),m=c.Aj.xs.length - k∧n9≤n25∧(k≤c.Aj.xs.length)∧(csG.length=k)∧(∀ q,q<k→∃ a cp,gd csG q=JV c q ⟨a,cp,Fp c q (KD c q)⟩)∧St 148 [(1,pt z),(BA z),(Cj n2),(BD n2),(IY c),(Dl c),(48,Ac k)] [] ⟨w,n25,(Ji n2 c aP i cP csG k aC cC z w)⟩ a w') (c.Aj.xs.length - 0) ?_ ?_
 ·intro a w' hs;exact⟨n9,0,([]),none,0,rfl,Nat.le_refl _,Nat.zero_le _,rfl,fun q hq=>absurd hq (Nat.not_lt_zero q),by(try dsimp only[WN,XL,EO,Hr,CJ,Sr,Fh,CG,VX,DL,DI,DC,Yd,IY,Cj,FV,Dl,BD,BA,Ji,IU]at hs ⊢);rw[show CX c 0=CV c i from by rw[show i=c.Aa.xs.length by omega];rfl];exact hs⟩
 rintro m a w' ⟨n25,k,csG,aC,cC,rfl,hn24,hkk,hcl,hcs,hs⟩
 refine(?_:G Tryd.prog 148 [(1,pt z),(BA z),(Cj n2),(BD n2),(IY c),(Dl c),(48,Ac k)] [] ⟨w,n25,(Ji n2 c aP i cP csG k aC cC z w)⟩ _ _ _) a w' hs
 clear hs a w'
 have hcb:=QW hfine k (by omega)
 have hp0:CV c c.Aa.xs.length=c.Kernel*16+2+24*(c.Aa.xs.length:Int):=rfl
 refine CW ?_
 by_cases h26:(k:Int)<(c.Aj.xs.length:Int)
 ·refine Au 10 0 [1] [[oT]] [BT ((k:Int)<(c.Aj.xs.length:Int))] [(1,pt z),(BA z),(Cj n2),(BD n2),(IY c),(Dl c),(48,Ac k),(49,.bool true)] rfl ⟨bt,Ae⟩ ?_
  obtain⟨b27,o28,ha29,hF31,hc30⟩:=(hc.Aj).1.all (show 0<c.Aj.xs.length by omega)
  replace ha29:c.Aj.a=some ⟨b27,o28,none⟩:=ha29
  refine Lj [(1,pt z),(BA z),(Cj n2),(BD n2),(D5 c b27 o28),(Dl c),(48,Ac k),(49,.bool true)] (by(try dsimp only[EO,Hr,CJ,Fh,CG,DL,DI,DC,D5,IY,Cj,FV,Dl,BD,BA,Ji,IU]);simp only[ha29]) ?_
  have hc32:=hc30 k (show k<c.Aj.xs.length by omega)
  have he33:=(hc.Aj).2 k (show k<c.Aj.xs.length by omega)
  obtain⟨y34,hy34⟩:∃ y_,y_=gd c.Aj.xs k:=⟨_,rfl⟩
  rw[←hy34]at he33 hc32
  have hEd:=hfine.Yk (k:=k) (by omega);have hsb:=NZ y34;have hpb:=Uh y34;have hlb:=Zax hfine (show k<c.Aj.xs.length by omega);have hEn:KD c k=(CB c (k:Int) false).length:=rfl
  refine q_c 5 2 [] [[o0,(oi k),(ol 0 (Be.arr y34)),o0,o0,(an 3 8)],[(an 7 1),o0]] [Dc k,k<c.Aj.xs.length,BM,GN w b27 (o28+k*3) (Be.arr y34),Qb n25,Qb n25,Qb n25,Qb z,Qb z,Qb z,Qb z,Qb z,Qb z,Qb z] [(1,pt z),(BA z),(Cj n2),(BD n2),(D5 c b27 o28),(Dl c),(48,Ac k),(DJ n25),(54,.agg (Ai.arr c)),(55,Ac k)] ⟨w,n25+1,[(Ak w),(CG c z),(CJ z),(Fh n2 c k),(EO n2 c aP i cP csG aC cC),(DL c aP i cP z),(DC csG z),(DI csG aC cC z),(E5 y34 n25)]⟩ rfl ⟨rfl,(by omega),rfl,Em hc32,rfl,rfl,rfl,rfl,rfl,rfl,rfl,rfl,rfl,rfl,Ae⟩ ?_
  refine l_call [] [] 46 #[.agg (Ai.arr c),Ac k] (some 56) Ae ?_
  intro w35 hw35
  refine(RQ w35 c (k:Int) (hc.ext (hw35.ext rfl) (fun _ h=>h)) (by omega) (fun i hi=>O6 (hfine.parts i hi))).mono ?_
  rintro e w36 ⟨ax37,cp38,ax39,cp40,rfl,hSw36,hDw36,hkw36⟩
  have hnw36:n25+1≤w36.heap.size:=Ef hw35 hkw36
  rw[hw35.size]at hSw36 hDw36
  refine⟨_,_,rfl,hw35.U1 hkw36, ?_⟩
  refine AZ 3 0 [] [[o0,o0,o0,o0,o0]] [] [(1,pt z),(BA z),(Cj n2),(BD n2),(D5 c b27 o28),(Dl c),(48,Ac k),(DJ n25),(8,.slice ax37 ((CB c (k:Int) true).length) cp38),(EH c k cp40 ax39)] rfl Ae ?_
  obtain⟨b41,o42,ha43,hF45,hc44⟩:=((⟨hSw36,Wx hfine⟩:Nh Gs.cells 2 Gs.ok _ _ _)).1.all (show 0<(CB c (k:Int) true).length by omega)
  replace ha43:ax37=some ⟨b41,o42,none⟩:=ha43
  refine Lj [(1,pt z),(BA z),(Cj n2),(BD n2),(D5 c b27 o28),(Dl c),(48,Ac k),(DJ n25),(8,.slice (some ⟨b41,o42,none⟩) ((CB c (k:Int) true).length) cp38),(EH c k cp40 ax39)] (by(try dsimp only[EO,Hr,CJ,Fh,E5,CG,DL,DI,DC,D5,IY,Cj,EH,FV,Dl,BD,BA,DJ,Ji,IU]);simp only[ha43]) ?_
  have hc46:=hc44 0 (show 0<(CB c (k:Int) true).length by omega)
  have he47:=((⟨hSw36,Wx hfine⟩:Nh Gs.cells 2 Gs.ok _ _ _)).2 0 (show 0<(CB c (k:Int) true).length by omega)
  obtain⟨y48,hy48⟩:∃ y_,y_=gd (⟨ax37,cp38,CB c (k:Int) true⟩:Sl Gs).xs 0:=⟨_,rfl⟩
  rw[←hy48]at he47 hc46
  refine DZ 16 [0,1,2,4,5,6,7,8,9] [(Ak w),(CG c z),(CJ z),(EO n2 c aP i cP csG aC cC),(DL c aP i cP z),(DC csG z),(DI csG aC cC z),(E5 y34 n25),(mid (n25+1) w36)] rfl rfl ?_
  refine Ci [(0,o0),(2,o0),(3,(an 3 7)),(6,o0),(7,(oi 0)),(8,o0),(9,(oa [.via 8 (i6 y48.partition)])),(10,o0),(11,(oi 0)),(12,o0),(13,(oa [.via 8 (i6 y48.port)]))] [1,2,4,5,46,47,48,7,9,59,61,62,68,72] [Qb n25,Qb n25,Qb n25,(0:Int)=((0:Nat):Int),0<(CB c (k:Int) true).length,BM,∀ w',Ch.holds (mid (n25+1) w36) w'→w'.cell? ⟨b41,o42,none⟩=some (i6 y48.partition),(0:Int)=((0:Nat):Int),0<(CB c (k:Int) true).length,BM,∀ w',Ch.holds (mid (n25+1) w36) w'→w'.cell? ⟨b41,o42+1,none⟩=some (i6 y48.port)] [true,false,true,true,false,false,true,true,true,true,true,true,true,true,false,false,false] [(1,pt z),(BA z),(Cj n2),(BD n2),(D5 c b27 o28),(Dl c),(48,Ac k),(DJ n25),(EH c k cp40 ax39),(59,.func (.func 78) #[] #[pt n2]),(OX n2),(62,.agg (Be.arr y34)),(68,i6 y48.partition),(72,i6 y48.port)] ⟨rfl,rfl,rfl,rfl,(by omega),rfl,KI hF45 (hc46 0 _ rfl),rfl,(by omega),rfl,KI hF45 (hc46 1 _ rfl),Ae⟩ ?_
  refine Qo (fun x:{p:Nat×Nat // w36.heap.size≤p.1∧w36.heap.size≤p.2}=>([(1,pt z),(BA z),(Cj n2),(BD n2),(D5 c b27 o28),(Dl c),(48,Ac k),(DJ n25),(EH c k cp40 ax39),(10,pt x.1.2)],⟨w,x.1.1,[(Ak w),(CG c z),(CJ z),(IJ n2 c k y34),(EO n2 c aP i cP csG aC cC),(DL c aP i cP z),(DC csG z),(DI csG aC cC z),(E5 y34 n25),(mid (n25+1) w36),(.blk x.1.2 (.cells #[i6 (CX c k),i6 ((CX c k)+2),i6 y48.partition,i6 y48.port,.slice none 0 0] 95 (0,0)) true)]⟩)) (fun hK => ?_) ?_
  ·refine Jr [1,15] ?_
   refine List.forall_mem_cons.2 ⟨?_,List.forall_mem_cons.2 ⟨?_,fun _ h=>absurd h List.not_mem_nil⟩⟩
   ·refine FU [] [] 78 #[i6 2,pt n2] (some 60) (by as_aux_lemma=>kernel_rfl) rfl rfl Ae ?_
    intro w51 hw51
    refine Bf (args:=[i6 2,pt n2]) 10 ⟨w,w36.heap.size,[(Ak w),(CG c z),(CJ z),(Fh n2 c k),(EO n2 c aP i cP csG aC cC),(DL c aP i cP z),(DC csG z),(DI csG aC cC z),(E5 y34 n25),(mid (n25+1) w36)]⟩ Tryd.func78 rfl (by kernel_rfl) (by kernel_rfl) hw51 ?_
    refine q_c 17 0 [] [[o0],[(a1 3),o0],[(a1 3),o0,(ov (i6 ((CX c k)+2))),(a1 3)],[o0,o0]] [Qb n2,Qb n2,Wr ((CX c k:Int)+2) ((CX c k)+2),Qb n2] [(3,i6 (CX c k))] ⟨w,w36.heap.size,[(Ak w),(CG c z),(CJ z),(VU n2 c k),(EO n2 c aP i cP csG aC cC),(DL c aP i cP z),(DC csG z),(DI csG aC cC z),(E5 y34 n25),(mid (n25+1) w36)]⟩ rfl ⟨rfl,rfl,BP,rfl,Ae⟩ ?_
    refine Az [] [] (i6 (CX c k)) Ae ?_
    intro w52 hw52
    have hs53:=hw52
    refine⟨_,_,rfl,hs53,.inr (fun c hc=>hs53.all c (by first | exact hc | exact DW (is:=[0,1,2,4,5,6,7,8,9]) rfl c hc)), ?_⟩
    refine CY [1,2,4,5,46,47,48,7,9,61,62,68,72,60] [(1,pt z),(BA z),(Cj n2),(BD n2),(D5 c b27 o28),(Dl c),(48,Ac k),(DJ n25),(EH c k cp40 ax39),(OX n2),(62,.agg (Be.arr y34)),(68,i6 y48.partition),(72,i6 y48.port),(60,i6 (CX c k))] ?_
    refine Jr [4,15] ?_
    refine List.forall_mem_cons.2 ⟨?_,List.forall_mem_cons.2 ⟨?_,fun _ h=>absurd h List.not_mem_nil⟩⟩
    ·refine FU [] [] 47 #[.agg (Be.arr y34)] (some 63) (by as_aux_lemma=>kernel_rfl) rfl rfl Ae ?_
     intro w54 hw54
     refine(Ql w54 y34 (he33.ext (hw54.ext rfl) (fun _ h=>h))).mono ?_
     rintro e w55 ⟨rfl,hkw55⟩
     have hnw55:w36.heap.size≤w55.heap.size:=Ef hw54 hkw55
     have hs56:=hw54.keeps hkw55
     refine⟨_,_,rfl,hs56,.inr (fun c hc=>hs56.all c (by first | exact hc | exact DW (is:=[0,1,2,4,5,6,7,8,9]) rfl c hc)), ?_⟩
     refine CY [1,2,4,5,46,47,48,7,9,61,68,72,60,63] [(1,pt z),(BA z),(Cj n2),(BD n2),(D5 c b27 o28),(Dl c),(48,Ac k),(DJ n25),(EH c k cp40 ax39),(OX n2),(68,i6 y48.partition),(72,i6 y48.port),(60,i6 (CX c k)),(63,i6 (BL y34))] ?_
     refine Jr [5,15] ?_
     refine List.forall_mem_cons.2 ⟨?_,List.forall_mem_cons.2 ⟨?_,fun _ h=>absurd h List.not_mem_nil⟩⟩
     ·refine FU [] [] 78 #[i6 (BL y34),pt n2] (some 64) (by as_aux_lemma=>kernel_rfl) rfl rfl Ae ?_
      intro w57 hw57
      refine Bf (args:=[i6 (BL y34),pt n2]) 10 ⟨w,w55.heap.size,[(Ak w),(CG c z),(CJ z),(VU n2 c k),(EO n2 c aP i cP csG aC cC),(DL c aP i cP z),(DC csG z),(DI csG aC cC z),(E5 y34 n25),(mid (n25+1) w36)]⟩ Tryd.func78 rfl (by kernel_rfl) (by kernel_rfl) hw57 ?_
      refine q_c 17 0 [] [[o0],[(a1 3),o0],[(a1 3),o0,(ov (i6 (((CX c k)+2)+(BL y34)))),(a1 3)],[o0,o0]] [Qb n2,Qb n2,Wr (((CX c k)+2:Int)+(BL y34)) (((CX c k)+2)+(BL y34)),Qb n2] [(3,i6 ((CX c k)+2))] ⟨w,w55.heap.size,[(Ak w),(CG c z),(CJ z),(IJ n2 c k y34),(EO n2 c aP i cP csG aC cC),(DL c aP i cP z),(DC csG z),(DI csG aC cC z),(E5 y34 n25),(mid (n25+1) w36)]⟩ rfl ⟨rfl,rfl,BP,rfl,Ae⟩ ?_
      refine Az [] [] (i6 ((CX c k)+2)) Ae ?_
      intro w58 hw58
      have hs59:=hw58
      refine⟨_,_,rfl,hs59,.inr (fun c hc=>hs59.all c (by first | exact hc | exact DW (is:=[0,1,2,4,5,6,7,8,9]) rfl c hc)), ?_⟩
      refine CY [1,2,4,5,46,47,48,7,9,68,72,60,64] [(1,pt z),(BA z),(Cj n2),(BD n2),(D5 c b27 o28),(Dl c),(48,Ac k),(DJ n25),(EH c k cp40 ax39),(68,i6 y48.partition),(72,i6 y48.port),(60,i6 (CX c k)),(64,i6 ((CX c k)+2))] ?_
      refine Ci [(14,o0)] [1,2,4,5,46,47,48,7,9,73] [] (Dw 15 2) [(1,pt z),(BA z),(Cj n2),(BD n2),(D5 c b27 o28),(Dl c),(48,Ac k),(DJ n25),(EH c k cp40 ax39),(VT c k y48)] Ae ?_
      refine Bq 15 ?_
      refine BC o0 [1,2,4,5,46,47,48,7,9,73,10] [] [(1,pt z),(BA z),(Cj n2),(BD n2),(D5 c b27 o28),(Dl c),(48,Ac k),(DJ n25),(EH c k cp40 ax39),(VT c k y48),(QI w55)] ⟨w,w55.heap.size+1,[(Ak w),(CG c z),(CJ z),(IJ n2 c k y34),(EO n2 c aP i cP csG aC cC),(DL c aP i cP z),(DC csG z),(DI csG aC cC z),(E5 y34 n25),(mid (n25+1) w36),(Y0 w55)]⟩ [0,1,2,4,5,6,7,8,9] Ae (.inr rfl) ?_
      refine Bq 16 ?_
      refine BC (an 5 10) [1,2,4,5,46,47,48,7,9,10] [Qb w55.heap.size,Qb w55.heap.size,Qb w55.heap.size,Qb w55.heap.size,Qb w55.heap.size] [(1,pt z),(BA z),(Cj n2),(BD n2),(D5 c b27 o28),(Dl c),(48,Ac k),(DJ n25),(EH c k cp40 ax39),(QI w55)] ⟨w,w55.heap.size+1,(TR n2 c aP i cP csG k y48 w55 w36 aC cC z y34 n25 w)⟩ [] ⟨rfl,rfl,rfl,rfl,rfl,Ae⟩ (.inl rfl) ?_
      refine DX 17 [0,1,2,3,4,5,6,7,8,9,10] (TR n2 c aP i cP csG k y48 w55 w36 aC cC z y34 n25 w) rfl rfl ?_
      refine CE ?_
      refine BI [1,2,4,5,46,47,48,7,9,10] [(1,pt z),(BA z),(Cj n2),(BD n2),(D5 c b27 o28),(Dl c),(48,Ac k),(DJ n25),(EH c k cp40 ax39),(QI w55)] ?_
      refine Cc [0,1,2,3,4,5,6,7,8,9,10] (TR n2 c aP i cP csG k y48 w55 w36 aC cC z y34 n25 w) rfl rfl ?_
      exact hK ⟨(w55.heap.size+1,w55.heap.size),by first | omega | (dsimp only;omega)⟩
     refine BC o0 [1,2,4,5,46,47,48,7,9,61,68,72,60,63,10] [] [(1,pt z),(BA z),(Cj n2),(BD n2),(D5 c b27 o28),(Dl c),(48,Ac k),(DJ n25),(EH c k cp40 ax39),(OX n2),(68,i6 y48.partition),(72,i6 y48.port),(60,i6 (CX c k)),(63,i6 (BL y34)),(QI w55)] ⟨w,w55.heap.size+1,[(Ak w),(CG c z),(CJ z),(VU n2 c k),(EO n2 c aP i cP csG aC cC),(DL c aP i cP z),(DC csG z),(DI csG aC cC z),(E5 y34 n25),(mid (n25+1) w36),(Y0 w55)]⟩ [0,1,2,4,5,6,7,8,9] Ae (.inr rfl) ?_
     refine Bq 5 ?_
     refine FU [] [] 78 #[i6 (BL y34),pt n2] (some 64) (by as_aux_lemma=>kernel_rfl) rfl rfl Ae ?_
     intro w60 hw60
     refine Bf (args:=[i6 (BL y34),pt n2]) 10 ⟨w,w55.heap.size+1,[(Ak w),(CG c z),(CJ z),(VU n2 c k),(EO n2 c aP i cP csG aC cC),(DL c aP i cP z),(DC csG z),(DI csG aC cC z),(E5 y34 n25),(mid (n25+1) w36),(Y0 w55)]⟩ Tryd.func78 rfl (by kernel_rfl) (by kernel_rfl) hw60 ?_
     refine q_c 17 0 [] [[o0],[(a1 3),o0],[(a1 3),o0,(ov (i6 (((CX c k)+2)+(BL y34)))),(a1 3)],[o0,o0]] [Qb n2,Qb n2,Wr (((CX c k)+2:Int)+(BL y34)) (((CX c k)+2)+(BL y34)),Qb n2] [(3,i6 ((CX c k)+2))] ⟨w,w55.heap.size+1,[(Ak w),(CG c z),(CJ z),(IJ n2 c k y34),(EO n2 c aP i cP csG aC cC),(DL c aP i cP z),(DC csG z),(DI csG aC cC z),(E5 y34 n25),(mid (n25+1) w36),(Y0 w55)]⟩ rfl ⟨rfl,rfl,BP,rfl,Ae⟩ ?_
     refine Az [] [] (i6 ((CX c k)+2)) Ae ?_
     intro w61 hw61
     have hs62:=hw61
     refine⟨_,_,rfl,hs62,.inr (fun c hc=>hs62.all c (by first | exact hc | exact DW (is:=[0,1,2,4,5,6,7,8,9]) rfl c hc)), ?_⟩
     refine CY [1,2,4,5,46,47,48,7,9,68,72,60,10,64] [(1,pt z),(BA z),(Cj n2),(BD n2),(D5 c b27 o28),(Dl c),(48,Ac k),(DJ n25),(EH c k cp40 ax39),(68,i6 y48.partition),(72,i6 y48.port),(60,i6 (CX c k)),(QI w55),(64,i6 ((CX c k)+2))] ?_
     refine Ci [(14,o0)] [1,2,4,5,46,47,48,7,9,10,73] [] (Dw 16 1) [(1,pt z),(BA z),(Cj n2),(BD n2),(D5 c b27 o28),(Dl c),(48,Ac k),(DJ n25),(EH c k cp40 ax39),(QI w55),(VT c k y48)] Ae ?_
     refine Bq 16 ?_
     refine BC (an 5 10) [1,2,4,5,46,47,48,7,9,10] [Qb w55.heap.size,Qb w55.heap.size,Qb w55.heap.size,Qb w55.heap.size,Qb w55.heap.size] [(1,pt z),(BA z),(Cj n2),(BD n2),(D5 c b27 o28),(Dl c),(48,Ac k),(DJ n25),(EH c k cp40 ax39),(QI w55)] ⟨w,w55.heap.size+1,(TR n2 c aP i cP csG k y48 w55 w36 aC cC z y34 n25 w)⟩ [] ⟨rfl,rfl,rfl,rfl,rfl,Ae⟩ (.inl rfl) ?_
     refine DX 17 [0,1,2,3,4,5,6,7,8,9,10] (TR n2 c aP i cP csG k y48 w55 w36 aC cC z y34 n25 w) rfl rfl ?_
     refine CE ?_
     refine BI [1,2,4,5,46,47,48,7,9,10] [(1,pt z),(BA z),(Cj n2),(BD n2),(D5 c b27 o28),(Dl c),(48,Ac k),(DJ n25),(EH c k cp40 ax39),(QI w55)] ?_
     refine Cc [0,1,2,3,4,5,6,7,8,9,10] (TR n2 c aP i cP csG k y48 w55 w36 aC cC z y34 n25 w) rfl rfl ?_
     exact hK ⟨(w55.heap.size+1,w55.heap.size),by first | omega | (dsimp only;omega)⟩
    refine BC o0 [1,2,4,5,46,47,48,7,9,61,62,68,72,60,10] [] [(1,pt z),(BA z),(Cj n2),(BD n2),(D5 c b27 o28),(Dl c),(48,Ac k),(DJ n25),(EH c k cp40 ax39),(OX n2),(62,.agg (Be.arr y34)),(68,i6 y48.partition),(72,i6 y48.port),(60,i6 (CX c k)),(MP w36)] ⟨w,w36.heap.size+1,(Yp n2 c aP i cP csG k w36 aC cC z y34 n25 w)⟩ [0,1,2,4,5,6,7,8,9] Ae (.inr rfl) ?_
    refine Bq 4 ?_
    refine FU [] [] 47 #[.agg (Be.arr y34)] (some 63) (by as_aux_lemma=>kernel_rfl) rfl rfl Ae ?_
    intro w63 hw63
    refine(Ql w63 y34 (he33.ext (hw63.ext rfl) (fun _ h=>h))).mono ?_
    rintro e w64 ⟨rfl,hkw64⟩
    have hnw64:w36.heap.size+1≤w64.heap.size:=Ef hw63 hkw64
    have hs65:=hw63.keeps hkw64
    refine⟨_,_,rfl,hs65,.inr (fun c hc=>hs65.all c (by first | exact hc | exact DW (is:=[0,1,2,4,5,6,7,8,9]) rfl c hc)), ?_⟩
    refine CY [1,2,4,5,46,47,48,7,9,61,68,72,60,10,63] [(1,pt z),(BA z),(Cj n2),(BD n2),(D5 c b27 o28),(Dl c),(48,Ac k),(DJ n25),(EH c k cp40 ax39),(OX n2),(68,i6 y48.partition),(72,i6 y48.port),(60,i6 (CX c k)),(MP w36),(63,i6 (BL y34))] ?_
    refine Bq 5 ?_
    refine FU [] [] 78 #[i6 (BL y34),pt n2] (some 64) (by as_aux_lemma=>kernel_rfl) rfl rfl Ae ?_
    intro w66 hw66
    refine Bf (args:=[i6 (BL y34),pt n2]) 10 ⟨w,w64.heap.size,(Yp n2 c aP i cP csG k w36 aC cC z y34 n25 w)⟩ Tryd.func78 rfl (by kernel_rfl) (by kernel_rfl) hw66 ?_
    refine q_c 17 0 [] [[o0],[(a1 3),o0],[(a1 3),o0,(ov (i6 (((CX c k)+2)+(BL y34)))),(a1 3)],[o0,o0]] [Qb n2,Qb n2,Wr (((CX c k)+2:Int)+(BL y34)) (((CX c k)+2)+(BL y34)),Qb n2] [(3,i6 ((CX c k)+2))] ⟨w,w64.heap.size,[(Ak w),(CG c z),(CJ z),(IJ n2 c k y34),(EO n2 c aP i cP csG aC cC),(DL c aP i cP z),(DC csG z),(DI csG aC cC z),(E5 y34 n25),(mid (n25+1) w36),(V4 w36)]⟩ rfl ⟨rfl,rfl,BP,rfl,Ae⟩ ?_
    refine Az [] [] (i6 ((CX c k)+2)) Ae ?_
    intro w67 hw67
    have hs68:=hw67
    refine⟨_,_,rfl,hs68,.inr (fun c hc=>hs68.all c (by first | exact hc | exact DW (is:=[0,1,2,4,5,6,7,8,9]) rfl c hc)), ?_⟩
    refine CY [1,2,4,5,46,47,48,7,9,68,72,60,10,64] [(1,pt z),(BA z),(Cj n2),(BD n2),(D5 c b27 o28),(Dl c),(48,Ac k),(DJ n25),(EH c k cp40 ax39),(68,i6 y48.partition),(72,i6 y48.port),(60,i6 (CX c k)),(MP w36),(64,i6 ((CX c k)+2))] ?_
    refine Ci [(14,o0)] [1,2,4,5,46,47,48,7,9,10,73] [] (Dw 16 1) [(1,pt z),(BA z),(Cj n2),(BD n2),(D5 c b27 o28),(Dl c),(48,Ac k),(DJ n25),(EH c k cp40 ax39),(MP w36),(VT c k y48)] Ae ?_
    refine Bq 16 ?_
    refine BC (an 5 10) [1,2,4,5,46,47,48,7,9,10] [Qb w36.heap.size,Qb w36.heap.size,Qb w36.heap.size,Qb w36.heap.size,Qb w36.heap.size] [(1,pt z),(BA z),(Cj n2),(BD n2),(D5 c b27 o28),(Dl c),(48,Ac k),(DJ n25),(EH c k cp40 ax39),(MP w36)] ⟨w,w64.heap.size,(Ul n2 c aP i cP csG k y48 w36 aC cC z y34 n25 w)⟩ [] ⟨rfl,rfl,rfl,rfl,rfl,Ae⟩ (.inl rfl) ?_
    refine DX 17 [0,1,2,3,4,5,6,7,8,9,10] (Ul n2 c aP i cP csG k y48 w36 aC cC z y34 n25 w) rfl rfl ?_
    refine CE ?_
    refine BI [1,2,4,5,46,47,48,7,9,10] [(1,pt z),(BA z),(Cj n2),(BD n2),(D5 c b27 o28),(Dl c),(48,Ac k),(DJ n25),(EH c k cp40 ax39),(MP w36)] ?_
    refine Cc [0,1,2,3,4,5,6,7,8,9,10] (Ul n2 c aP i cP csG k y48 w36 aC cC z y34 n25 w) rfl rfl ?_
    exact hK ⟨(w64.heap.size,w36.heap.size),by first | omega | (dsimp only;omega)⟩
   refine BC o0 [1,2,4,5,46,47,48,7,9,59,61,62,68,72,10] [] [(1,pt z),(BA z),(Cj n2),(BD n2),(D5 c b27 o28),(Dl c),(48,Ac k),(DJ n25),(EH c k cp40 ax39),(59,.func (.func 78) #[] #[pt n2]),(OX n2),(62,.agg (Be.arr y34)),(68,i6 y48.partition),(72,i6 y48.port),(MP w36)] ⟨w,w36.heap.size+1,[(Ak w),(CG c z),(CJ z),(Fh n2 c k),(EO n2 c aP i cP csG aC cC),(DL c aP i cP z),(DC csG z),(DI csG aC cC z),(E5 y34 n25),(mid (n25+1) w36),(V4 w36)]⟩ [0,1,2,4,5,6,7,8,9] Ae (.inr rfl) ?_
   refine Bq 1 ?_
   refine FU [] [] 78 #[i6 2,pt n2] (some 60) (by as_aux_lemma=>kernel_rfl) rfl rfl Ae ?_
   intro w69 hw69
   refine Bf (args:=[i6 2,pt n2]) 10 ⟨w,w36.heap.size+1,[(Ak w),(CG c z),(CJ z),(Fh n2 c k),(EO n2 c aP i cP csG aC cC),(DL c aP i cP z),(DC csG z),(DI csG aC cC z),(E5 y34 n25),(mid (n25+1) w36),(V4 w36)]⟩ Tryd.func78 rfl (by kernel_rfl) (by kernel_rfl) hw69 ?_
   refine q_c 17 0 [] [[o0],[(a1 3),o0],[(a1 3),o0,(ov (i6 ((CX c k)+2))),(a1 3)],[o0,o0]] [Qb n2,Qb n2,Wr ((CX c k:Int)+2) ((CX c k)+2),Qb n2] [(3,i6 (CX c k))] ⟨w,w36.heap.size+1,(Yp n2 c aP i cP csG k w36 aC cC z y34 n25 w)⟩ rfl ⟨rfl,rfl,BP,rfl,Ae⟩ ?_
   refine Az [] [] (i6 (CX c k)) Ae ?_
   intro w70 hw70
   have hs71:=hw70
   refine⟨_,_,rfl,hs71,.inr (fun c hc=>hs71.all c (by first | exact hc | exact DW (is:=[0,1,2,4,5,6,7,8,9]) rfl c hc)), ?_⟩
   refine CY [1,2,4,5,46,47,48,7,9,61,62,68,72,10,60] [(1,pt z),(BA z),(Cj n2),(BD n2),(D5 c b27 o28),(Dl c),(48,Ac k),(DJ n25),(EH c k cp40 ax39),(OX n2),(62,.agg (Be.arr y34)),(68,i6 y48.partition),(72,i6 y48.port),(MP w36),(60,i6 (CX c k))] ?_
   refine Bq 4 ?_
   refine FU [] [] 47 #[.agg (Be.arr y34)] (some 63) (by as_aux_lemma=>kernel_rfl) rfl rfl Ae ?_
   intro w72 hw72
   refine(Ql w72 y34 (he33.ext (hw72.ext rfl) (fun _ h=>h))).mono ?_
   rintro e w73 ⟨rfl,hkw73⟩
   have hnw73:w36.heap.size+1≤w73.heap.size:=Ef hw72 hkw73
   have hs74:=hw72.keeps hkw73
   refine⟨_,_,rfl,hs74,.inr (fun c hc=>hs74.all c (by first | exact hc | exact DW (is:=[0,1,2,4,5,6,7,8,9]) rfl c hc)), ?_⟩
   refine CY [1,2,4,5,46,47,48,7,9,61,68,72,10,60,63] [(1,pt z),(BA z),(Cj n2),(BD n2),(D5 c b27 o28),(Dl c),(48,Ac k),(DJ n25),(EH c k cp40 ax39),(OX n2),(68,i6 y48.partition),(72,i6 y48.port),(MP w36),(60,i6 (CX c k)),(63,i6 (BL y34))] ?_
   refine Bq 5 ?_
   refine FU [] [] 78 #[i6 (BL y34),pt n2] (some 64) (by as_aux_lemma=>kernel_rfl) rfl rfl Ae ?_
   intro w75 hw75
   refine Bf (args:=[i6 (BL y34),pt n2]) 10 ⟨w,w73.heap.size,(Yp n2 c aP i cP csG k w36 aC cC z y34 n25 w)⟩ Tryd.func78 rfl (by kernel_rfl) (by kernel_rfl) hw75 ?_
   refine q_c 17 0 [] [[o0],[(a1 3),o0],[(a1 3),o0,(ov (i6 (((CX c k)+2)+(BL y34)))),(a1 3)],[o0,o0]] [Qb n2,Qb n2,Wr (((CX c k)+2:Int)+(BL y34)) (((CX c k)+2)+(BL y34)),Qb n2] [(3,i6 ((CX c k)+2))] ⟨w,w73.heap.size,[(Ak w),(CG c z),(CJ z),(IJ n2 c k y34),(EO n2 c aP i cP csG aC cC),(DL c aP i cP z),(DC csG z),(DI csG aC cC z),(E5 y34 n25),(mid (n25+1) w36),(V4 w36)]⟩ rfl ⟨rfl,rfl,BP,rfl,Ae⟩ ?_
   refine Az [] [] (i6 ((CX c k)+2)) Ae ?_
   intro w76 hw76
   have hs77:=hw76
   refine⟨_,_,rfl,hs77,.inr (fun c hc=>hs77.all c (by first | exact hc | exact DW (is:=[0,1,2,4,5,6,7,8,9]) rfl c hc)), ?_⟩
   refine CY [1,2,4,5,46,47,48,7,9,68,72,10,60,64] [(1,pt z),(BA z),(Cj n2),(BD n2),(D5 c b27 o28),(Dl c),(48,Ac k),(DJ n25),(EH c k cp40 ax39),(68,i6 y48.partition),(72,i6 y48.port),(MP w36),(60,i6 (CX c k)),(64,i6 ((CX c k)+2))] ?_
   refine Ci [(14,o0)] [1,2,4,5,46,47,48,7,9,10,73] [] (Dw 16 1) [(1,pt z),(BA z),(Cj n2),(BD n2),(D5 c b27 o28),(Dl c),(48,Ac k),(DJ n25),(EH c k cp40 ax39),(MP w36),(VT c k y48)] Ae ?_
   refine Bq 16 ?_
   refine BC (an 5 10) [1,2,4,5,46,47,48,7,9,10] [Qb w36.heap.size,Qb w36.heap.size,Qb w36.heap.size,Qb w36.heap.size,Qb w36.heap.size] [(1,pt z),(BA z),(Cj n2),(BD n2),(D5 c b27 o28),(Dl c),(48,Ac k),(DJ n25),(EH c k cp40 ax39),(MP w36)] ⟨w,w73.heap.size,(Ul n2 c aP i cP csG k y48 w36 aC cC z y34 n25 w)⟩ [] ⟨rfl,rfl,rfl,rfl,rfl,Ae⟩ (.inl rfl) ?_
   refine DX 17 [0,1,2,3,4,5,6,7,8,9,10] (Ul n2 c aP i cP csG k y48 w36 aC cC z y34 n25 w) rfl rfl ?_
   refine CE ?_
   refine BI [1,2,4,5,46,47,48,7,9,10] [(1,pt z),(BA z),(Cj n2),(BD n2),(D5 c b27 o28),(Dl c),(48,Ac k),(DJ n25),(EH c k cp40 ax39),(MP w36)] ?_
   refine Cc [0,1,2,3,4,5,6,7,8,9,10] (Ul n2 c aP i cP csG k y48 w36 aC cC z y34 n25 w) rfl rfl ?_
   exact hK ⟨(w73.heap.size,w36.heap.size),by first | omega | (dsimp only;omega)⟩
  rintro⟨⟨n49,b50⟩,hJ78⟩
  simp only at hJ78
  show E _ _ [(1,pt z),(BA z),(Cj n2),(BD n2),(D5 c b27 o28),(Dl c),(48,Ac k),(DJ n25),(EH c k cp40 ax39),(Gz b50)] _ ⟨w,n49,[(Ak w),(CG c z),(CJ z),(IJ n2 c k y34),(EO n2 c aP i cP csG aC cC),(DL c aP i cP z),(DC csG z),(DI csG aC cC z),(E5 y34 n25),(mid (n25+1) w36),(bk b50 #[i6 (CX c k),i6 ((CX c k)+2),i6 y48.partition,i6 y48.port,.slice none 0 0] 95)]⟩ _ _ _
  refine NU 7 0 [] [[o0,o0,o0]] [] [(1,pt z),(BA z),(Cj n2),(BD n2),(D5 c b27 o28),(Dl c),(48,Ac k),(DJ n25),(Gz b50),(J5 c k cp40 ax39),(GG c k),(76,i6 0)] rfl Ae ?_
  refine Un z 103 3 BH.cells ?_
  refine Di [1,2,4,5,7,10,46,47,48,74,75,76] [(1,pt z),(BA z),(Cj n2),(BD n2),(DJ n25),(Gz b50),(D5 c b27 o28),(Dl c),(48,Ac k),(J5 c k cp40 ax39),(GG c k),(76,i6 0)] ?_
  refine D8 (fun m a w'=>∃ (n80:Nat) (j:Nat) (aD:Option Addr) (cD:Nat),m=(CB c (k:Int) false).length - j∧n49≤n80∧(j≤(CB c (k:Int) false).length)∧St 148 [(1,pt z),(BA z),(Cj n2),(BD n2),(DJ n25),(Gz b50),(D5 c b27 o28),(Dl c),(48,Ac k),(J5 c k cp40 ax39),(GG c k),(76,Ac j)] [] ⟨w,n80,[(Ak w),(CG c z),(CJ z),(IV n2 c k j),(EO n2 c aP i cP csG aC cC),(DL c aP i cP z),(DC csG z),(DI csG aC cC z),(E5 y34 n25),(mid (n25+1) w36),(Jv c k y48 aD cD j b50),(IW c k aD cD j z)]⟩ a w') ((CB c (k:Int) false).length - 0) ?_ ?_
  ·intro a w' hs;exact⟨n49,0,none,0,rfl,Nat.le_refl _,Nat.zero_le _,by(try dsimp only[Jv,EO,Hr,CJ,IJ,IV,Fh,E5,CG,DL,IW,DI,DC,D5,GG,IY,OX,Cj,J5,EH,FV,Dl,BD,BA,Gz,DJ,Ji,IU]at hs ⊢);rw[show IE c k 0=((CX c k)+2)+(BL y34)from by unfold IE;rw[←hy34];omega];exact hs⟩
  rintro m a w' ⟨n80,j,aD,cD,rfl,hn79,hkj,hs⟩
  refine(?_:G Tryd.prog 148 [(1,pt z),(BA z),(Cj n2),(BD n2),(DJ n25),(Gz b50),(D5 c b27 o28),(Dl c),(48,Ac k),(J5 c k cp40 ax39),(GG c k),(76,Ac j)] [] ⟨w,n80,[(Ak w),(CG c z),(CJ z),(IV n2 c k j),(EO n2 c aP i cP csG aC cC),(DL c aP i cP z),(DC csG z),(DI csG aC cC z),(E5 y34 n25),(mid (n25+1) w36),(Jv c k y48 aD cD j b50),(IW c k aD cD j z)]⟩ _ _ _) a w' hs
  clear hs a w'
  have hdb:=dAt_bd hfine (show k<c.Aj.xs.length by omega) (show j≤4 by unfold KD at hEd;omega)
  have hdl:(Fp c k j).length=j:=Vm
  refine CW ?_
  by_cases h81:(j:Int)<(((CB c (k:Int) false).length:Nat):Int)
  ·refine Au 10 0 [1] [[oT]] [BT ((j:Int)<(((CB c (k:Int) false).length:Nat):Int))] [(1,pt z),(BA z),(Cj n2),(BD n2),(DJ n25),(Gz b50),(D5 c b27 o28),(Dl c),(48,Ac k),(J5 c k cp40 ax39),(GG c k),(76,Ac j),(77,.bool true)] rfl ⟨bt,Ae⟩ ?_
   obtain⟨b82,o83,ha84,hF86,hc85⟩:=((⟨hDw36,Wx hfine⟩:Nh Gs.cells 2 Gs.ok _ _ _)).1.all (show 0<(CB c (k:Int) false).length by omega)
   replace ha84:ax39=some ⟨b82,o83,none⟩:=ha84
   refine Lj [(1,pt z),(BA z),(Cj n2),(BD n2),(DJ n25),(Gz b50),(D5 c b27 o28),(Dl c),(48,Ac k),(KN c k b82 o83 cp40),(GG c k),(76,Ac j),(77,.bool true)] (by(try dsimp only[Jv,EO,Hr,CJ,IJ,IV,Fh,E5,CG,DL,IW,DI,DC,KN,D5,GG,IY,Cj,J5,EH,FV,Dl,BD,BA,Gz,DJ,Ji,IU]);simp only[ha84]) ?_
   have hc87:=hc85 j (show j<(CB c (k:Int) false).length by omega)
   have he88:=((⟨hDw36,Wx hfine⟩:Nh Gs.cells 2 Gs.ok _ _ _)).2 j (show j<(CB c (k:Int) false).length by omega)
   obtain⟨y89,hy89⟩:∃ y_,y_=gd (⟨ax39,cp40,CB c (k:Int) false⟩:Sl Gs).xs j:=⟨_,rfl⟩
   rw[←hy89]at he88 hc87
   refine q_c 3 0 [] [[(oi j),(oa [.via 9 (i6 y89.partition),.via 9 (i6 y89.port)]),o0,(an 2 12)]] [Dc j,j<(CB c (k:Int) false).length,BM,∀ w',Ch.holds (mid (n25+1) w36) w'→w'.cell? ⟨b82,o83+j*2,none⟩=some (i6 y89.partition),∀ w',Ch.holds (mid (n25+1) w36) w'→w'.cell? ⟨b82,o83+j*2+1,none⟩=some (i6 y89.port),Qb n80,Qb n80] [(1,pt z),(BA z),(Cj n2),(BD n2),(DJ n25),(Gz b50),(D5 c b27 o28),(Dl c),(48,Ac k),(KN c k b82 o83 cp40),(GG c k),(76,Ac j),(12,pt n80)] ⟨w,n80+1,[(Ak w),(CG c z),(CJ z),(IV n2 c k j),(EO n2 c aP i cP csG aC cC),(DL c aP i cP z),(DC csG z),(DI csG aC cC z),(E5 y34 n25),(mid (n25+1) w36),(Jv c k y48 aD cD j b50),(IW c k aD cD j z),(O3 y89 n80)]⟩ rfl ⟨rfl,(by omega),rfl,KI hF86 (hc87 0 _ rfl),KI hF86 (hc87 1 _ rfl),rfl,rfl,Ae⟩ ?_
   refine DZ 14 [0,1,2,4,5,6,7,8,9,10,12] [(Ak w),(CG c z),(CJ z),(EO n2 c aP i cP csG aC cC),(DL c aP i cP z),(DC csG z),(DI csG aC cC z),(E5 y34 n25),(mid (n25+1) w36),(Jv c k y48 aD cD j b50),(O3 y89 n80)] rfl rfl ?_
   refine Ci [(0,o0),(1,(a1 9)),(2,o0),(3,(a1 10)),(4,o0),(5,(a1 10)),(6,o0),(7,(an 3 7))] [1,2,4,5,7,10,46,47,48,74,75,76,81,83,85,86,87] [Qb b50,Qb n80,Qb n80,Qb n25,Qb n25,Qb n25] (Dw 8 7) [(1,pt z),(BA z),(Cj n2),(BD n2),(DJ n25),(Gz b50),(D5 c b27 o28),(Dl c),(48,Ac k),(KN c k b82 o83 cp40),(GG c k),(76,Ac j),(81,.slice aD ((Fp c k j).length) cD),(83,i6 y89.partition),(85,i6 y89.port),(86,.func (.func 78) #[] #[pt n2]),(87,.agg (Be.arr y34))] ⟨rfl,rfl,rfl,rfl,rfl,rfl,Ae⟩ ?_
   refine Bq 8 ?_
   refine FU [] [] 48 #[.agg (Be.arr y34)] (some 88) (by as_aux_lemma=>kernel_rfl) rfl rfl Ae ?_
   intro w90 hw90
   refine(port_calls w90 y34 (he33.ext (hw90.ext rfl) (fun _ h=>h))).mono ?_
   rintro e w91 ⟨rfl,hkw91⟩
   have hnw91:n80+1≤w91.heap.size:=Ef hw90 hkw91
   have hs92:=hw90.keeps hkw91
   refine⟨_,_,rfl,hs92,.inr (fun c hc=>hs92.all c (by first | exact hc | exact DW (is:=[0,1,2,4,5,6,7,8,9,10,12]) rfl c hc)), ?_⟩
   refine CY [1,2,4,5,7,10,46,47,48,74,75,76,81,83,85,86,88] [(1,pt z),(BA z),(Cj n2),(BD n2),(DJ n25),(Gz b50),(D5 c b27 o28),(Dl c),(48,Ac k),(KN c k b82 o83 cp40),(GG c k),(76,Ac j),(81,.slice aD ((Fp c k j).length) cD),(83,i6 y89.partition),(85,i6 y89.port),(86,.func (.func 78) #[] #[pt n2]),(88,i6 (portOf y34))] ?_
   refine Bq 9 ?_
   refine FU [] [] 78 #[i6 (portOf y34),pt n2] (some 89) (by as_aux_lemma=>kernel_rfl) rfl rfl Ae ?_
   intro w93 hw93
   refine Bf (args:=[i6 (portOf y34),pt n2]) 10 ⟨w,w91.heap.size,[(Ak w),(CG c z),(CJ z),(IV n2 c k j),(EO n2 c aP i cP csG aC cC),(DL c aP i cP z),(DC csG z),(DI csG aC cC z),(E5 y34 n25),(mid (n25+1) w36),(Jv c k y48 aD cD j b50),(IW c k aD cD j z),(O3 y89 n80)]⟩ Tryd.func78 rfl (by kernel_rfl) (by kernel_rfl) hw93 ?_
   refine q_c 17 0 [] [[o0],[(a1 3),o0],[(a1 3),o0,(ov (i6 ((IE c k j)+(portOf y34)))),(a1 3)],[o0,o0]] [Qb n2,Qb n2,Wr ((IE c k j:Int)+(portOf y34)) ((IE c k j)+(portOf y34)),Qb n2] [(3,i6 (IE c k j))] ⟨w,w91.heap.size,[(Ak w),(CG c z),(CJ z),(PP n2 c k j y34),(EO n2 c aP i cP csG aC cC),(DL c aP i cP z),(DC csG z),(DI csG aC cC z),(E5 y34 n25),(mid (n25+1) w36),(Jv c k y48 aD cD j b50),(IW c k aD cD j z),(O3 y89 n80)]⟩ rfl ⟨rfl,rfl,BP,rfl,Ae⟩ ?_
   refine Az [] [] (i6 (IE c k j)) Ae ?_
   intro w94 hw94
   have hs95:=hw94
   refine⟨_,_,rfl,hs95,.inr (fun c hc=>hs95.all c (by first | exact hc | exact DW (is:=[0,1,2,4,5,6,7,8,9,10,12]) rfl c hc)), ?_⟩
   refine CY [1,2,4,5,7,10,46,47,48,74,75,76,81,83,85,89] [(1,pt z),(BA z),(Cj n2),(BD n2),(DJ n25),(Gz b50),(D5 c b27 o28),(Dl c),(48,Ac k),(KN c k b82 o83 cp40),(GG c k),(76,Ac j),(81,.slice aD ((Fp c k j).length) cD),(83,i6 y89.partition),(85,i6 y89.port),(89,i6 (IE c k j))] ?_
   refine Ci [(10,o0)] [1,2,4,5,7,10,46,47,48,74,75,76,81,90] [] (Dw 11 4) [(1,pt z),(BA z),(Cj n2),(BD n2),(DJ n25),(Gz b50),(D5 c b27 o28),(Dl c),(48,Ac k),(KN c k b82 o83 cp40),(GG c k),(76,Ac j),(81,.slice aD ((Fp c k j).length) cD),(90,.agg #[i6 y89.partition,i6 y89.port,i6 (IE c k j)])] Ae ?_
   refine Bq 11 ?_
   refine BC o0 [1,2,4,5,7,10,46,47,48,74,75,76,81,91] [] [(1,pt z),(BA z),(Cj n2),(BD n2),(DJ n25),(Gz b50),(D5 c b27 o28),(Dl c),(48,Ac k),(KN c k b82 o83 cp40),(GG c k),(76,Ac j),(81,.slice aD ((Fp c k j).length) cD),(91,.slice (some ⟨w91.heap.size,0,none⟩) 1 1)] ⟨w,w91.heap.size+1,[(Ak w),(CG c z),(CJ z),(PP n2 c k j y34),(EO n2 c aP i cP csG aC cC),(DL c aP i cP z),(DC csG z),(DI csG aC cC z),(E5 y34 n25),(mid (n25+1) w36),(Jv c k y48 aD cD j b50),(IW c k aD cD j z),(O3 y89 n80),(SK c k j y89 w91)]⟩ [0,1,2,4,5,6,7,8,9,10,12] Ae (.inr rfl) ?_
   refine Bq 12 ?_
   refine Uf z 11 13 (Fp c k j) [(⟨y89.partition,y89.port,IE c k j⟩:BH)] BH.cells 103 3 24 (.slice aD ((Fp c k j).length) cD) w91.heap.size 1 1 #[i6 y89.partition,i6 y89.port,i6 (IE c k j)] 103 (0,0) true (some 92) [0,1,2,4,5,6,7,8,9,10,12] (by simp only[List.length_cons,List.length_nil];omega) (show z≤w91.heap.size+1 by omega) (.inr ⟨rfl,rfl⟩) (fun ax96 cp97 n98 (hn99:w91.heap.size+1≤n98) => ?_)
   refine CY [1,2,4,5,7,10,46,47,48,74,75,76,92] [(1,pt z),(BA z),(Cj n2),(BD n2),(DJ n25),(Gz b50),(D5 c b27 o28),(Dl c),(48,Ac k),(KN c k b82 o83 cp40),(GG c k),(76,Ac j),(92,.slice ax96 ((Fp c k j++[(⟨y89.partition,y89.port,IE c k j⟩:BH)]).length) cp97)] ?_
   refine Ci [(13,o0)] [1,2,4,5,7,10,46,47,48,74,75,76,92,93] [] (Dw 14 1) [(1,pt z),(BA z),(Cj n2),(BD n2),(DJ n25),(Gz b50),(D5 c b27 o28),(Dl c),(48,Ac k),(KN c k b82 o83 cp40),(GG c k),(76,Ac j),(92,.slice ax96 ((Fp c k j++[(⟨y89.partition,y89.port,IE c k j⟩:BH)]).length) cp97),(93,.pointer (some ⟨b50,4,none⟩))] Ae ?_
   refine Bq 14 ?_
   refine BC (a1 10) [1,2,4,5,7,10,46,47,48,74,75,76] [Qb b50] [(1,pt z),(BA z),(Cj n2),(BD n2),(DJ n25),(Gz b50),(D5 c b27 o28),(Dl c),(48,Ac k),(KN c k b82 o83 cp40),(GG c k),(76,Ac j)] ⟨w,n98,[(Ak w),(CG c z),(CJ z),(PP n2 c k j y34),(EO n2 c aP i cP csG aC cC),(DL c aP i cP z),(DC csG z),(DI csG aC cC z),(E5 y34 n25),(mid (n25+1) w36),(U6 c k y48 j b50 ax96 y89 cp97),(SI c k j ax96 y89 cp97 z),(O3 y89 n80),(SK c k j y89 w91)]⟩ [] ⟨rfl,Ae⟩ (.inl rfl) ?_
   refine DX 15 [0,1,2,3,4,5,6,7,8,9,10,11,12,13] [(Ak w),(CG c z),(CJ z),(PP n2 c k j y34),(EO n2 c aP i cP csG aC cC),(DL c aP i cP z),(DC csG z),(DI csG aC cC z),(E5 y34 n25),(mid (n25+1) w36),(U6 c k y48 j b50 ax96 y89 cp97),(SI c k j ax96 y89 cp97 z),(O3 y89 n80),(SK c k j y89 w91)] rfl rfl ?_
   refine CE ?_
   refine NU 4 0 [] [[(ov (i6 ((j+1:Nat):Int))),o0]] [Wr ((j:Int)+1) (((j+1:Nat):Int))] [(1,pt z),(BA z),(Cj n2),(BD n2),(DJ n25),(Gz b50),(D5 c b27 o28),(Dl c),(48,Ac k),(KN c k b82 o83 cp40),(GG c k),(76,i6 ((j+1:Nat):Int))] rfl ⟨BP,Ae⟩ ?_
   refine Cc [0,1,2,3,4,5,6,7,8,9,10,11] [(Ak w),(CG c z),(CJ z),(PP n2 c k j y34),(EO n2 c aP i cP csG aC cC),(DL c aP i cP z),(DC csG z),(DI csG aC cC z),(E5 y34 n25),(mid (n25+1) w36),(U6 c k y48 j b50 ax96 y89 cp97),(SI c k j ax96 y89 cp97 z)] rfl rfl ?_
   refine GH [1,2,4,5,7,10,46,47,48,74,75,76] [(1,pt z),(BA z),(Cj n2),(BD n2),(DJ n25),(Gz b50),(D5 c b27 o28),(Dl c),(48,Ac k),(J5 c k cp40 ax39),(GG c k),(76,i6 ((j+1:Nat):Int))] (by(try dsimp only[U6,Jv,EO,Hr,SK,CJ,IJ,PP,IV,Fh,E5,O3,CG,SI,DL,IW,DI,DC,KN,D5,GG,IY,Cj,J5,EH,FV,Dl,BD,BA,Gz,DJ,Ji,IU]);simp only[ha84];rfl) ?_
   refine BR (fun a w' hs=>⟨(CB c (k:Int) false).length - (j+1),by omega,n98,(j+1),ax96,cp97,rfl,by omega,by omega,by(try dsimp only[U6,Jv,EO,Hr,SK,CJ,IJ,PP,IV,Fh,E5,O3,CG,SI,DL,IW,DI,DC,KN,D5,GG,IY,Cj,J5,EH,FV,Dl,BD,BA,Gz,DJ,Ji,IU]at hs ⊢);rw[dAt_succ,X4,←hy34,show Qq c k j=⟨y89.partition,y89.port,IE c k j⟩from by rw[hy89];rfl];exact hs⟩)
  refine q_c 11 4 [0] [[oF],[o0,(a1 4),(an 5 10),o0]] [BF ((j:Int)<(((CB c (k:Int) false).length:Nat):Int)),Qb (n2+1),Qb b50,Qb b50,Qb b50,Qb b50,Qb b50] [(1,pt z),(BA z),(Cj n2),(BD n2),(D5 c b27 o28),(Dl c),(48,Ac k),(96,.slice aC csG.length cC),(98,.slice (some ⟨n80,0,none⟩) 1 1)] ⟨w,n80+1,[(Ak w),(CG c z),(CJ z),(IV n2 c k j),(EO n2 c aP i cP csG aC cC),(DL c aP i cP z),(DC csG z),(DI csG aC cC z),(E5 y34 n25),(mid (n25+1) w36),(Jv c k y48 aD cD j b50),(IW c k aD cD j z),(XG c k y48 aD cD j n80)]⟩ rfl ⟨bf,rfl,rfl,rfl,rfl,rfl,rfl,Ae⟩ ?_
  refine PH z 7 12 csG [(⟨CX c k,(CX c k)+2,y48.partition,y48.port,(⟨aD,cD,Fp c k j⟩:Sl BH)⟩:AA)] AA.cells 95 5 56 (.slice aC csG.length cC) n80 1 1 #[i6 (CX c k),i6 ((CX c k)+2),i6 y48.partition,i6 y48.port,.slice aD ((Fp c k j).length) cD] 95 (0,0) true (some 99) (by simp only[List.length_cons,List.length_nil];omega) (show z≤n80+1 by omega) (fun ax100 cp101 n102 (hn103:n80+1≤n102) => ?_)
  refine EI 5 0 [] [[o0,(a1 4)],[(ov (i6 ((k+1:Nat):Int))),o0]] [Qb (n2+1),Wr ((k:Int)+1) (((k+1:Nat):Int))] [(1,pt z),(BA z),(Cj n2),(BD n2),(D5 c b27 o28),(Dl c),(48,i6 ((k+1:Nat):Int))] ⟨w,n102,[(Ak w),(CG c z),(CJ z),(IV n2 c k j),(Xl n2 c aP i cP ax100 csG k y48 aD cD j cp101),(DL c aP i cP z),(DC csG z),(VV c ax100 csG k y48 aD cD j cp101 z),(E5 y34 n25),(mid (n25+1) w36),(Jv c k y48 aD cD j b50),(IW c k aD cD j z),(XG c k y48 aD cD j n80)]⟩ rfl ⟨rfl,BP,Ae⟩ ?_
  refine e_fam 6 11 [0,1,2,3,4,5,7,8,9,10,12] [(Ak w),(CG c z),(CJ z),(IV n2 c k j),(Xl n2 c aP i cP ax100 csG k y48 aD cD j cp101),(DL c aP i cP z),(VV c ax100 csG k y48 aD cD j cp101 z),(E5 y34 n25),(mid (n25+1) w36),(Jv c k y48 aD cD j b50),(XG c k y48 aD cD j n80)] ?_
  refine Cc [0,1,2,3,4,5,11,6] [(Ak w),(CG c z),(CJ z),(IV n2 c k j),(Xl n2 c aP i cP ax100 csG k y48 aD cD j cp101),(DL c aP i cP z),(Ja z 103 3 BH.cells (csG.map AA.DK++[⟨aD,cD,Fp c k j⟩])),(VV c ax100 csG k y48 aD cD j cp101 z)] rfl rfl ?_
  refine GH [1,2,4,5,46,47,48] [(1,pt z),(BA z),(Cj n2),(BD n2),(IY c),(Dl c),(48,i6 ((k+1:Nat):Int))] (by(try dsimp only[Xl,U6,Jv,XG,EO,Hr,SK,CJ,IJ,PP,IV,Fh,E5,O3,CG,VV,SI,DL,IW,DI,DC,KN,D5,GG,IY,Cj,J5,EH,FV,Dl,BD,BA,Gz,DJ,Ji,IU]);simp only[ha29];rfl) ?_
  refine BR (fun a w' hs=>⟨c.Aj.xs.length - (k+1),by omega,n102,(k+1),(csG++[(⟨CX c k,(CX c k)+2,y48.partition,y48.port,(⟨aD,cD,Fp c k j⟩:Sl BH)⟩:AA)]),ax100,cp101,rfl,by omega,by omega,by rw[List.length_append,hcl];rfl,chans_push hcl hcs (a:=aD) (cp:=cD) (by unfold JV;rw[←hy48,show KD c k=j from by unfold KD;omega]),by(try dsimp only[Xl,U6,Jv,XG,EO,Hr,SK,CJ,IJ,PP,IV,Fh,E5,O3,CG,VV,SI,DL,IW,DI,DC,KN,D5,GG,IY,Cj,J5,EH,FV,Dl,BD,BA,Gz,DJ,Ji,IU]at hs ⊢);rw[List.map_append,cAt_succ,show KD c k=j from by unfold KD;omega];exact hs⟩)
 refine Au 12 1 [0] [[oF],[o0]] [BF ((k:Int)<(c.Aj.xs.length:Int))] [(1,pt z),(BA z),(BD n2),(102,.func (.func 78) #[] #[pt n2])] rfl ⟨bf,Ae⟩ ?_
 refine l_call [] [] 78 #[i6 0,pt n2] (some 103) Ae ?_
 intro w104 hw104
 refine Bf (args:=[i6 0,pt n2]) 10 ⟨w,n25,(Ji n2 c aP i cP csG k aC cC z w)⟩ Tryd.func78 rfl (by kernel_rfl) (by kernel_rfl) hw104 ?_
 refine Au 17 0 [] [[o0],[(a1 3),o0],[(a1 3),o0,(ov (i6 (CX c k))),(a1 3)],[o0,o0]] [Qb n2,Qb n2,Wr ((CX c k:Int)+0) (CX c k),Qb n2] [(3,i6 (CX c k))] rfl ⟨rfl,rfl,BP,rfl,Ae⟩ ?_
 refine Az [] [] (i6 (CX c k)) Ae ?_
 intro w105 hw105
 refine⟨_,_,rfl,hw105, ?_⟩
 refine AZ 0 3 [] [[(ov (i6 ((CX c k)+16))),(ov (i6 (((CX c k)+16) - 1))),(ov (i6 ((((CX c k)+16) - 1) / 16)))]] [Wr ((CX c k:Int)+16) ((CX c k)+16),Wr (((CX c k)+16:Int) - 1) (((CX c k)+16) - 1),Wr (Int.tdiv (((CX c k)+16) - 1) 16) ((((CX c k)+16) - 1) / 16)] [(1,pt z),(BA z),(BD n2),(106,i6 ((((CX c k)+16) - 1) / 16))] rfl ⟨BP,BP,congrArg (Value.int .i64) (Me (by omega) (by omega) (by omega)),Ae⟩ ?_
 refine l_call [] [] 45 #[i6 ((((CX c k)+16) - 1) / 16)] (some 107) Ae ?_
 intro w106 hw106
 refine Bf (args:=[i6 ((((CX c k)+16) - 1) / 16)]) 4 ⟨w,n25,(Ji n2 c aP i cP csG k aC cC z w)⟩ Tryd.func45 rfl (by kernel_rfl) (by kernel_rfl) hw106 ?_
 refine q_c 9 0 [] [[o0,o0],[o0,o0]] [] [(2,.func (.func 78) #[] #[pt n25])] ⟨w,n25+1,[(Ak w),(CG c z),(CJ z),(Fh n2 c k),(EO n2 c aP i cP csG aC cC),(DL c aP i cP z),(DC csG z),(DI csG aC cC z),(bk n25 #[i6 ((((CX c k)+16) - 1) / 16)] 3)]⟩ rfl Ae ?_
 refine Az [] [] (.func (.func 78) #[] #[pt n25]) Ae ?_
 intro w107 hw107
 refine⟨_,_,rfl,hw107, ?_⟩
 refine AZ 8 0 [] [[o0],[o0,(a1 1),o0,o0]] [Qb z] [(BA z),(BD n2),(FX n25),(Nv c),(FZ c),(111,i6 0)] rfl ⟨rfl,Ae⟩ ?_
 refine g_fam0 z 3 1 (fun x:Int=>[i6 x]) ?_
 refine D8 (fun m a w'=>∃ (n109:Nat) (p:Nat) (psG:List Ar) (aP2:Option Addr) (cP2:Nat),m=c.Aa.xs.length - p∧n25+1≤n109∧(p≤c.Aa.xs.length)∧(psG.length=c.Aa.xs.length)∧(∀ q,p≤q→q<c.Aa.xs.length→gd psG q=PM c q)∧(∀ q,q<p→∃ a cp,gd psG q=GU c q ⟨a,cp,FP c q (Jz (gd c.Aa.xs q))⟩)∧St 148 [(BA z),(BD n2),(FX n25),(Nv c),(FZ c),(111,Ac p)] [] ⟨w,n109,(Pj n2 c csG k psG cP2 aC cC aP2 z n25 p w)⟩ a w') (c.Aa.xs.length - 0) ?_ ?_
 ·intro a w' hs;exact⟨(n25+1),0,(IM c i),aP,cP,rfl,Nat.le_refl _,Nat.zero_le _,(by rw[WZ];omega),(fun q _ hq=>gd_map (show q<i by omega)),fun q hq=>absurd hq (Nat.not_lt_zero q),by(try dsimp only[Jv,EO,Hr,PN,CJ,IJ,IV,Og,Fh,E5,CG,Jp,DL,IW,Pi,DI,DC,D5,Nv,GG,IY,FX,Cj,J5,EH,FZ,FV,Dl,BD,BA,Gz,DJ,Pj,Ji,IU]at hs ⊢);rw[show Ec c 0=(((CX c k)+16) - 1) / 16 from by rw[tAt_zero,show k=c.Aj.xs.length by omega]];exact hs⟩
 rintro m a w' ⟨n109,p,psG,aP2,cP2,rfl,hn108,hkp,hpl,hp1,hp2,hs⟩
 refine(?_:G Tryd.prog 148 [(BA z),(BD n2),(FX n25),(Nv c),(FZ c),(111,Ac p)] [] ⟨w,n109,(Pj n2 c csG k psG cP2 aC cC aP2 z n25 p w)⟩ _ _ _) a w' hs
 clear hs a w'
 have htb:=RF hfine p (by omega)
 refine CW ?_
 by_cases h110:(p:Int)<(c.Aa.xs.length:Int)
 ·refine Au 10 0 [1] [[oT]] [BT ((p:Int)<(c.Aa.xs.length:Int))] [(BA z),(BD n2),(FX n25),(Nv c),(FZ c),(111,Ac p),(112,.bool true)] rfl ⟨bt,Ae⟩ ?_
  obtain⟨b111,o112,ha113,hF115,hc114⟩:=(hc.Aa).1.all (show 0<c.Aa.xs.length by omega)
  replace ha113:c.Aa.a=some ⟨b111,o112,none⟩:=ha113
  refine Lj [(BA z),(BD n2),(FX n25),(Hg c b111 o112),(FZ c),(111,Ac p),(112,.bool true)] (by(try dsimp only[Jv,EO,Hr,PN,CJ,IJ,IV,Og,Fh,E5,CG,Jp,DL,IW,Pi,DI,DC,Hg,D5,Nv,GG,IY,FX,Cj,J5,EH,FZ,FV,Dl,BD,BA,Gz,DJ,Pj,Ji,IU]);simp only[ha113]) ?_
  have hc116:=hc114 p (show p<c.Aa.xs.length by omega)
  have he117:=(hc.Aa).2 p (show p<c.Aa.xs.length by omega)
  obtain⟨y118,hy118⟩:∃ y_,y_=gd c.Aa.xs p:=⟨_,rfl⟩
  rw[←hy118]at he117 hc116
  have htn:=UD y118
  refine q_c 4 0 [] [[o0,(oi p),(ol 0 (Aq.arr y118)),o0,o0,(an 8 10)]] [Dc p,p<c.Aa.xs.length,BM,GN w b111 (o112+p*8) (Aq.arr y118),Qb n109,Qb n109,Qb n109,Qb n109,Qb n109,Qb n109,Qb n109,Qb n109] [(BA z),(BD n2),(FX n25),(Hg c b111 o112),(FZ c),(111,Ac p),(15,pt n109),(14,Ac p)] ⟨w,n109+1,[(Ak w),(CG c z),(CJ z),(Fh n2 c k),(PN n2 c csG psG cP2 aC cC aP2),(Pi psG cP2 aP2 z),(DC csG z),(DI csG aC cC z),(Og c n25 p),(Jp psG z p),(Kv n109 y118)]⟩ rfl ⟨rfl,(by omega),rfl,Em hc116,rfl,rfl,rfl,rfl,rfl,rfl,rfl,rfl,Ae⟩ ?_
  refine Nu (base:=z) (e:=65) (sz:=5) (cells:=Ar.cells) (a:=aP2) (n:=psG.length) (cap:=cP2) (xs:=psG) 5 (by omega) (fun b119 hg120 hb121 => ?_)
  subst hg120
  refine DZ 7 [0,1,2,3,4,5,6,7,9,10] [(Ak w),(CG c z),(CJ z),(Fh n2 c k),(L9 n2 c csG b119 psG cP2 aC cC),(BV z 65 5 Ar.cells (.slice (some ⟨b119,0,none⟩) psG.length cP2) psG),(DC csG z),(DI csG aC cC z),(Jp psG z p),(Kv n109 y118)] rfl rfl ?_
  refine Ci [(0,o0),(1,(a1 4)),(2,o0),(3,o0)] [2,5,13,109,110,111,15,14,117,118,119] [Qb (n2+1)] (Dw 4 4) [(BA z),(BD n2),(FX n25),(Hg c b111 o112),(FZ c),(111,Ac p),(15,pt n109),(14,Ac p),(117,.slice (some ⟨b119,0,none⟩) psG.length cP2),(118,Ac p),(119,.func (.func 78) #[] #[pt n25])] ⟨rfl,Ae⟩ ?_
  refine Bq 4 ?_
  refine FU [] [] 78 #[i6 1,pt n25] (some 120) (by as_aux_lemma=>kernel_rfl) rfl rfl Ae ?_
  intro w122 hw122
  refine Bf (args:=[i6 1,pt n25]) 10 ⟨w,n109+1,[(Ak w),(CG c z),(CJ z),(Fh n2 c k),(L9 n2 c csG b119 psG cP2 aC cC),(BV z 65 5 Ar.cells (.slice (some ⟨b119,0,none⟩) psG.length cP2) psG),(DC csG z),(DI csG aC cC z),(Og c n25 p),(Jp psG z p),(Kv n109 y118)]⟩ Tryd.func78 rfl (by kernel_rfl) (by kernel_rfl) hw122 ?_
  refine q_c 17 0 [] [[o0],[(a1 8),o0],[(a1 8),o0,(ov (i6 ((Ec c p)+1))),(a1 8)],[o0,o0]] [Qb n25,Qb n25,Wr ((Ec c p:Int)+1) ((Ec c p)+1),Qb n25] [(3,i6 (Ec c p))] ⟨w,n109+1,[(Ak w),(CG c z),(CJ z),(Fh n2 c k),(L9 n2 c csG b119 psG cP2 aC cC),(BV z 65 5 Ar.cells (.slice (some ⟨b119,0,none⟩) psG.length cP2) psG),(DC csG z),(DI csG aC cC z),(bk n25 #[i6 ((Ec c p)+1)] 3),(Jp psG z p),(Kv n109 y118)]⟩ rfl ⟨rfl,rfl,BP,rfl,Ae⟩ ?_
  refine Az [] [] (i6 (Ec c p)) Ae ?_
  intro w123 hw123
  have hs124:=hw123
  refine⟨_,_,rfl,hs124,.inr (fun c hc=>hs124.all c (by first | exact hc | exact DW (is:=[0,1,2,3,4,5,6,7,9,10]) rfl c hc)), ?_⟩
  refine CY [2,5,13,109,110,111,15,14,117,118,120] [(BA z),(BD n2),(FX n25),(Hg c b111 o112),(FZ c),(111,Ac p),(15,pt n109),(14,Ac p),(117,.slice (some ⟨b119,0,none⟩) psG.length cP2),(118,Ac p),(120,i6 (Ec c p))] ?_
  refine Ci [(5,(oi p)),(6,o0)] [2,5,13,109,110,111,15,14,120,122] [Dc p,p<psG.length,BM] (Dw 7 1) [(BA z),(BD n2),(FX n25),(Hg c b111 o112),(FZ c),(111,Ac p),(15,pt n109),(14,Ac p),(120,i6 (Ec c p)),(122,.pointer (some ⟨b119,0+Ee 5 p+3,none⟩))] ⟨rfl,(by omega),rfl,Ae⟩ ?_
  refine Bq 7 ?_
  refine UW 5 p 3 psG (⟨CV c p,CV c p+2,CV c p+2+17,Ec c p,(⟨none,0,[]⟩:Sl Int)⟩:Ar) Ar.cells z 65 5 b119 psG.length cP2 (i6 (Ec c p)) none [] (by first | omega | (rw[List.length_set];omega)) (by first | (rw[hp1 p (Nat.le_refl _) (by omega)];rfl) | (rw[MG (by omega)];rfl)) (.inl rfl) ?_
  refine CY [2,5,13,109,110,111,15,14] [(BA z),(BD n2),(FX n25),(Hg c b111 o112),(FZ c),(111,Ac p),(15,pt n109),(14,Ac p)] ?_
  refine DX 8 [0,1,2,3,4,5,6,7,8,9,10] [(Ak w),(CG c z),(CJ z),(Fh n2 c k),(L9 n2 c csG b119 psG cP2 aC cC),(BV z 65 5 Ar.cells (.slice (some ⟨b119,0,none⟩) psG.length cP2) (psG.set p (⟨CV c p,CV c p+2,CV c p+2+17,Ec c p,(⟨none,0,[]⟩:Sl Int)⟩:Ar))),(DC csG z),(DI csG aC cC z),(bk n25 #[i6 ((Ec c p)+1)] 3),(Jp psG z p),(Kv n109 y118)] rfl rfl ?_
  refine CE ?_
  refine NU 3 1 [] [[(an 8 10)]] [Qb n109,Qb n109,Qb n109,Qb n109,Qb n109,Qb n109,Qb n109,Qb n109] [(BA z),(BD n2),(FX n25),(Hg c b111 o112),(FZ c),(111,Ac p),(14,Ac p),(123,.agg (Aq.arr y118))] rfl ⟨rfl,rfl,rfl,rfl,rfl,rfl,rfl,rfl,Ae⟩ ?_
  refine Ba 49 #[.agg (Aq.arr y118)] (some 124) (i6 ((Jz y118:Nat):Int)) (fun w125 hw125=>tables_calls w125 y118 (he117.ext (hw125.ext rfl) (fun _ h=>h)) (Zar (by rw[hy118];exact hfine.parts p (by omega)))) (fun n126 (hn127:n109+1≤n126) => ?_)
  refine AZ 3 0 [] [[o0]] [] [(BA z),(BD n2),(FX n25),(Hg c b111 o112),(FZ c),(111,Ac p),(14,Ac p),(JL y118),(125,i6 0)] rfl Ae ?_
  refine Un z 3 1 (fun x:Int=>[i6 x]) ?_
  refine Di [2,5,13,14,109,110,111,124,125] [(BA z),(BD n2),(FX n25),(14,Ac p),(Hg c b111 o112),(FZ c),(111,Ac p),(JL y118),(125,i6 0)] ?_
  refine D8 (fun m a w'=>∃ (n129:Nat) (t:Nat) (aT:Option Addr) (cT:Nat),m=(Jz y118) - t∧n126≤n129∧(t≤(Jz y118))∧St 148 [(BA z),(BD n2),(FX n25),(14,Ac p),(Hg c b111 o112),(FZ c),(111,Ac p),(JL y118),(125,Ac t)] [] ⟨w,n129,(QE n2 c csG k b119 psG cP2 aC cC z n25 p t n109 y118 aT cT w)⟩ a w') ((Jz y118) - 0) ?_ ?_
  ·intro a w' hs;exact⟨n126,0,none,0,rfl,Nat.le_refl _,Nat.zero_le _,by(try dsimp only[Jv,L9,EO,Hr,PN,CJ,IJ,Q8,IV,Kv,Og,Fh,E5,CG,Nw,QN,Jp,DL,IW,Pi,DI,DC,Hg,D5,Nv,GG,IY,FX,Cj,J5,EH,FZ,FV,Dl,JL,BD,BA,Gz,DJ,QE,Pj,Ji,IU]at hs ⊢);rw[show Ec c p+1+((0:Nat):Int)=Ec c p+1 from by omega];exact hs⟩
  rintro m a w' ⟨n129,t,aT,cT,rfl,hn128,hkt,hs⟩
  refine(?_:G Tryd.prog 148 [(BA z),(BD n2),(FX n25),(14,Ac p),(Hg c b111 o112),(FZ c),(111,Ac p),(JL y118),(125,Ac t)] [] ⟨w,n129,(QE n2 c csG k b119 psG cP2 aC cC z n25 p t n109 y118 aT cT w)⟩ _ _ _) a w' hs
  clear hs a w'
  have htl:(FP c p t).length=t:=WG
  refine CW ?_
  by_cases h130:(t:Int)<((Jz y118:Nat):Int)
  ·refine Au 9 0 [1] [[oT]] [BT ((t:Int)<((Jz y118:Nat):Int))] [(BA z),(BD n2),(FX n25),(14,Ac p),(Hg c b111 o112),(FZ c),(111,Ac p),(JL y118),(125,Ac t),(126,.bool true)] rfl ⟨bt,Ae⟩ ?_
   refine DZ 15 [0,1,2,3,4,5,6,7,9,10] [(Ak w),(CG c z),(CJ z),(Fh n2 c k),(L9 n2 c csG b119 psG cP2 aC cC),(Nw c b119 psG cP2 z p t aT cT),(DC csG z),(DI csG aC cC z),(Jp psG z p),(Kv n109 y118)] rfl rfl ?_
   refine Ci [(0,o0),(1,(a1 4)),(2,o0),(3,o0),(4,(a1 4)),(5,o0),(6,(oi p)),(7,o0),(8,(oa [.via 5 (.slice aT ((FP c p t).length) cT)])),(9,o0)] [2,5,13,14,109,110,111,124,125,128,129,135,136] [Qb (n2+1),Qb (n2+1),Dc p,p<psG.length,BM,∀ w',Ch.holds (Nw c b119 psG cP2 z p t aT cT) w'→w'.cell? ⟨b119,0+Ee 5 p+4,none⟩=some (.slice aT ((FP c p t).length) cT)] (Dw 10 6) [(BA z),(BD n2),(FX n25),(14,Ac p),(Hg c b111 o112),(FZ c),(111,Ac p),(JL y118),(125,Ac t),(128,.slice (some ⟨b119,0,none⟩) psG.length cP2),(129,Ac p),(135,.slice aT ((FP c p t).length) cT),(136,.func (.func 78) #[] #[pt n25])] ⟨rfl,rfl,rfl,(by omega),rfl,C9 (sz:=5) (j:=p) (k:=4) (fun _=>rfl) (by first | omega | (rw[List.length_set];omega)) (by rw[MG (by omega)];rfl),Ae⟩ ?_
   refine Bq 10 ?_
   refine FU [] [] 78 #[i6 1,pt n25] (some 137) (by as_aux_lemma=>kernel_rfl) rfl rfl Ae ?_
   intro w131 hw131
   refine Bf (args:=[i6 1,pt n25]) 10 ⟨w,n129,(QE n2 c csG k b119 psG cP2 aC cC z n25 p t n109 y118 aT cT w)⟩ Tryd.func78 rfl (by kernel_rfl) (by kernel_rfl) hw131 ?_
   refine q_c 17 0 [] [[o0],[(a1 8),o0],[(a1 8),o0,(ov (i6 ((Ec c p+1+(t:Int))+1))),(a1 8)],[o0,o0]] [Qb n25,Qb n25,Wr ((Ec c p+1+(t:Int):Int)+1) ((Ec c p+1+(t:Int))+1),Qb n25] [(3,i6 (Ec c p+1+(t:Int)))] ⟨w,n129,[(Ak w),(CG c z),(CJ z),(Fh n2 c k),(L9 n2 c csG b119 psG cP2 aC cC),(Nw c b119 psG cP2 z p t aT cT),(DC csG z),(DI csG aC cC z),(SE c n25 p t),(Jp psG z p),(Kv n109 y118),(QN c z p t aT cT)]⟩ rfl ⟨rfl,rfl,BP,rfl,Ae⟩ ?_
   refine Az [] [] (i6 (Ec c p+1+(t:Int))) Ae ?_
   intro w132 hw132
   have hs133:=hw132
   refine⟨_,_,rfl,hs133,.inr (fun c hc=>hs133.all c (by first | exact hc | exact DW (is:=[0,1,2,3,4,5,6,7,9,10]) rfl c hc)), ?_⟩
   refine CY [2,5,13,14,109,110,111,124,125,128,129,135,137] [(BA z),(BD n2),(FX n25),(14,Ac p),(Hg c b111 o112),(FZ c),(111,Ac p),(JL y118),(125,Ac t),(128,.slice (some ⟨b119,0,none⟩) psG.length cP2),(129,Ac p),(135,.slice aT ((FP c p t).length) cT),(137,i6 (Ec c p+1+(t:Int)))] ?_
   refine Bq 11 ?_
   refine BC o0 [2,5,13,14,109,110,111,124,125,128,129,135,138] [] [(BA z),(BD n2),(FX n25),(14,Ac p),(Hg c b111 o112),(FZ c),(111,Ac p),(JL y118),(125,Ac t),(128,.slice (some ⟨b119,0,none⟩) psG.length cP2),(129,Ac p),(135,.slice aT ((FP c p t).length) cT),(138,.slice (some ⟨n129,0,none⟩) 1 1)] ⟨w,n129+1,[(Ak w),(CG c z),(CJ z),(Fh n2 c k),(L9 n2 c csG b119 psG cP2 aC cC),(Nw c b119 psG cP2 z p t aT cT),(DC csG z),(DI csG aC cC z),(SE c n25 p t),(Jp psG z p),(Kv n109 y118),(QN c z p t aT cT),(bk n129 #[i6 (Ec c p+1+(t:Int))] 3)]⟩ [0,1,2,3,4,5,6,7,9,10] Ae (.inr rfl) ?_
   refine Bq 12 ?_
   refine Uf z 11 12 (FP c p t) [Ec c p+1+(t:Int)] (fun x:Int=>[i6 x]) 3 1 8 (.slice aT ((FP c p t).length) cT) n129 1 1 #[i6 (Ec c p+1+(t:Int))] 3 (0,0) true (some 139) [0,1,2,3,4,5,6,7,9,10] (by simp only[List.length_cons,List.length_nil];omega) (show z≤n129+1 by omega) (.inr ⟨rfl,rfl⟩) (fun ax134 cp135 n136 (hn137:n129+1≤n136) => ?_)
   refine CY [2,5,13,14,109,110,111,124,125,128,129,139] [(BA z),(BD n2),(FX n25),(14,Ac p),(Hg c b111 o112),(FZ c),(111,Ac p),(JL y118),(125,Ac t),(128,.slice (some ⟨b119,0,none⟩) psG.length cP2),(129,Ac p),(139,.slice ax134 (((FP c p t)++[Ec c p+1+(t:Int)]).length) cp135)] ?_
   refine Ci [(13,(oi p)),(14,o0)] [2,5,13,14,109,110,111,124,125,139,141] [Dc p,p<psG.length,BM] (Dw 15 1) [(BA z),(BD n2),(FX n25),(14,Ac p),(Hg c b111 o112),(FZ c),(111,Ac p),(JL y118),(125,Ac t),(139,.slice ax134 (((FP c p t)++[Ec c p+1+(t:Int)]).length) cp135),(141,.pointer (some ⟨b119,0+Ee 5 p+4,none⟩))] ⟨rfl,(by omega),rfl,Ae⟩ ?_
   refine Bq 15 ?_
   refine UW 5 p 4 (psG.set p (⟨CV c p,CV c p+2,CV c p+2+17,Ec c p,(⟨aT,cT,FP c p t⟩:Sl Int)⟩:Ar)) (⟨CV c p,CV c p+2,CV c p+2+17,Ec c p,(⟨ax134,cp135,((FP c p t)++[Ec c p+1+(t:Int)])⟩:Sl Int)⟩:Ar) Ar.cells z 65 5 b119 psG.length cP2 (.slice ax134 (((FP c p t)++[Ec c p+1+(t:Int)]).length) cp135) none [] (by first | omega | (rw[List.length_set];omega)) (by first | (rw[hp1 p (Nat.le_refl _) (by omega)];rfl) | (rw[MG (by omega)];rfl)) (.inl rfl) ?_
   refine CY [2,5,13,14,109,110,111,124,125] [(BA z),(BD n2),(FX n25),(14,Ac p),(Hg c b111 o112),(FZ c),(111,Ac p),(JL y118),(125,Ac t)] ?_
   refine DX 16 [0,1,2,3,4,5,6,7,8,9,10,11,12] [(Ak w),(CG c z),(CJ z),(Fh n2 c k),(L9 n2 c csG b119 psG cP2 aC cC),(V7 c b119 psG cP2 z p t aT cT ax134 cp135),(DC csG z),(DI csG aC cC z),(SE c n25 p t),(Jp psG z p),(Kv n109 y118),(BV z 3 1 (fun x:Int=>[i6 x]) (.slice ax134 (((FP c p t)++[Ec c p+1+(t:Int)]).length) cp135) ((FP c p t)++[Ec c p+1+(t:Int)])),(bk n129 #[i6 (Ec c p+1+(t:Int))] 3)] rfl rfl ?_
   refine CE ?_
   refine NU 4 0 [] [[(ov (i6 ((t+1:Nat):Int))),o0]] [Wr ((t:Int)+1) (((t+1:Nat):Int))] [(BA z),(BD n2),(FX n25),(14,Ac p),(Hg c b111 o112),(FZ c),(111,Ac p),(JL y118),(125,i6 ((t+1:Nat):Int))] rfl ⟨BP,Ae⟩ ?_
   refine Cc [0,1,2,3,4,5,6,7,8,9,10,11] [(Ak w),(CG c z),(CJ z),(Fh n2 c k),(L9 n2 c csG b119 psG cP2 aC cC),(V7 c b119 psG cP2 z p t aT cT ax134 cp135),(DC csG z),(DI csG aC cC z),(SE c n25 p t),(Jp psG z p),(Kv n109 y118),(BV z 3 1 (fun x:Int=>[i6 x]) (.slice ax134 (((FP c p t)++[Ec c p+1+(t:Int)]).length) cp135) ((FP c p t)++[Ec c p+1+(t:Int)]))] rfl rfl ?_
   refine BI [2,5,13,14,109,110,111,124,125] [(BA z),(BD n2),(FX n25),(14,Ac p),(Hg c b111 o112),(FZ c),(111,Ac p),(JL y118),(125,i6 ((t+1:Nat):Int))] ?_
   refine BR (fun a w' hs=>⟨(Jz y118) - (t+1),by omega,n136,(t+1),ax134,cp135,rfl,by omega,by omega,by(try dsimp only[Jv,L9,EO,Hr,PN,CJ,IJ,SE,Q8,IV,Kv,Og,Fh,E5,CG,V7,Nw,QN,Jp,DL,IW,Pi,DI,DC,Hg,D5,Nv,GG,IY,FX,Cj,J5,EH,FZ,FV,Dl,JL,BD,BA,Gz,DJ,QE,Pj,Ji,IU]at hs ⊢);simp only[List.set_set]at hs;rw[show Ec c p+1+((t+1:Nat):Int)=Ec c p+1+(t:Int)+1 from by omega,YM];exact hs⟩)
  refine Au 13 0 [0] [[oF],[(ov (i6 ((p+1:Nat):Int))),o0]] [BF ((t:Int)<((Jz y118:Nat):Int)),Wr ((p:Int)+1) (((p+1:Nat):Int))] [(BA z),(BD n2),(FX n25),(Hg c b111 o112),(FZ c),(111,i6 ((p+1:Nat):Int))] rfl ⟨bf,BP,Ae⟩ ?_
  refine e_fam 9 11 [0,1,2,3,4,5,6,7,8,10] [(Ak w),(CG c z),(CJ z),(Fh n2 c k),(L9 n2 c csG b119 psG cP2 aC cC),(Nw c b119 psG cP2 z p t aT cT),(DC csG z),(DI csG aC cC z),(Q8 c n25 p t),(Kv n109 y118)] ?_
  refine Cc [0,1,2,3,4,5,6,7,8,10] [(Ak w),(CG c z),(CJ z),(Fh n2 c k),(L9 n2 c csG b119 psG cP2 aC cC),(Nw c b119 psG cP2 z p t aT cT),(DC csG z),(DI csG aC cC z),(Q8 c n25 p t),(Ja z 3 1 (fun x:Int=>[i6 x]) ((psG.take p).map Ar.Tables++[⟨aT,cT,(FP c p t)⟩]))] rfl rfl ?_
  refine GH [2,5,13,109,110,111] [(BA z),(BD n2),(FX n25),(Nv c),(FZ c),(111,i6 ((p+1:Nat):Int))] (by(try dsimp only[Jv,L9,EO,Hr,PN,CJ,IJ,SE,Q8,IV,Kv,Og,Fh,E5,CG,V7,Nw,QN,Jp,DL,IW,Pi,DI,DC,Hg,D5,Nv,GG,IY,FX,Cj,J5,EH,FZ,FV,Dl,JL,BD,BA,Gz,DJ,QE,Pj,Ji,IU]);simp only[ha113];rfl) ?_
  refine BR (fun a w' hs=>⟨c.Aa.xs.length - (p+1),by omega,n129,(p+1),(psG.set p (⟨CV c p,CV c p+2,CV c p+2+17,Ec c p,(⟨aT,cT,FP c p t⟩:Sl Int)⟩:Ar)),(some ⟨b119,0,none⟩),cP2,rfl,by omega,by omega,by rw[List.length_set];exact hpl,fun q h1 h2=>by rw[IZ (by omega) (by omega)];exact hp1 q (by omega) h2,fun q hq=>if e:q=p then(by rw[e];exact⟨aT,cT,by rw[MG (by omega),←hy118,show Jz y118=t by omega];rfl⟩)else(by rw[IZ (fun e2=>e e2.symm) (by omega)];exact hp2 q (by omega)),by(try dsimp only[Jv,L9,EO,Hr,PN,CJ,IJ,SE,Q8,IV,Kv,Og,Fh,E5,CG,V7,Nw,QN,Jp,DL,IW,Pi,DI,DC,Hg,D5,Nv,GG,IY,FX,Cj,J5,EH,FZ,FV,Dl,JL,BD,BA,Gz,DJ,QE,Pj,Ji,IU]at hs ⊢);rw[take_set_succ (by omega),List.map_append,List.length_set,show Ec c (p+1)=Ec c p+1+(t:Int)from by rw[RV,←hy118];omega];exact hs⟩)
 refine Au 12 1 [0] [[oF],[o0]] [BF ((p:Int)<(c.Aa.xs.length:Int))] [(BA z),(BD n2),(144,.func (.func 78) #[] #[pt n25])] rfl ⟨bf,Ae⟩ ?_
 refine l_call [] [] 78 #[i6 0,pt n25] (some 145) Ae ?_
 intro w138 hw138
 refine Bf (args:=[i6 0,pt n25]) 10 ⟨w,n109,(Pj n2 c csG k psG cP2 aC cC aP2 z n25 p w)⟩ Tryd.func78 rfl (by kernel_rfl) (by kernel_rfl) hw138 ?_
 refine Au 17 0 [] [[o0],[(a1 8),o0],[(a1 8),o0,(ov (i6 (Ec c p))),(a1 8)],[o0,o0]] [Qb n25,Qb n25,Wr ((Ec c p:Int)+0) (Ec c p),Qb n25] [(3,i6 (Ec c p))] rfl ⟨rfl,rfl,BP,rfl,Ae⟩ ?_
 refine Az [] [] (i6 (Ec c p)) Ae ?_
 intro w139 hw139
 refine⟨_,_,rfl,hw139, ?_⟩
 refine EI 7 0 [] [[o0,(a1 4)],[(an 4 4),(an 4 2),o0]] [Qb (n2+1),Qb (n2+1),Qb (n2+1),Qb (n2+1),Qb (n2+1),Qb (z+1),Qb (z+1),Qb (z+1),Qb (z+1)] [(BA z),(3,i6 0)] ⟨w,n109,[(Ak w),(CG c z),(bk (z+1) #[i6 (c.Kernel*16),.slice aP2 psG.length cP2,.slice aC csG.length cC,i6 (Ec c p)] 58),(Fh n2 c k),(bk (n2+1) #[i6 (c.Kernel*16),.slice aP2 psG.length cP2,.slice aC csG.length cC,i6 (Ec c p)] 58),(Pi psG cP2 aP2 z),(DC csG z),(DI csG aC cC z),(Og c n25 p),(Jp psG z p)]⟩ rfl ⟨rfl,rfl,rfl,rfl,rfl,rfl,rfl,rfl,rfl,Ae⟩ ?_
 refine Az [.at 2,.at 2,.at 2,.at 2] [Qb (z+1),Qb (z+1),Qb (z+1),Qb (z+1)] (.tuple #[.agg #[i6 (c.Kernel*16),.slice aP2 psG.length cP2,.slice aC csG.length cC,i6 (Ec c p)],i6 0]) ⟨rfl,rfl,rfl,rfl,Ae⟩ ?_
 intro w140 hw140
 have hL:WF c ⟨c.Kernel*16,⟨aP2,cP2,psG⟩,⟨aC,cC,csG⟩,Ec c p⟩:=⟨rfl,by rw[show p=c.Aa.xs.length by omega],hpl,fun q hq=>hp2 q (by omega),by simp only;omega,fun q hq=>hcs q (by omega)⟩
 have hO:Xu z w140 ⟨c.Kernel*16,⟨aP2,cP2,psG⟩,⟨aC,cC,csG⟩,Ec c p⟩:=⟨w,by
  have h4:=hw140.pick [5,7,6,9] rfl rfl
  rw[hw140.size]
  unfold layS
  (try dsimp only[Jv,L9,EO,Hr,PN,CJ,IJ,Q8,IV,Kv,Og,Fh,E5,CG,Nw,QN,Jp,DL,IW,Pi,DI,DC,Hg,D5,Nv,GG,IY,FX,Cj,J5,EH,FZ,FV,Dl,JL,BD,BA,Gz,DJ,QE,Pj,Ji,IU]at h4)
  rw[List.take_of_length_le (by omega)]at h4
  exact h4⟩
 exact⟨_,rfl,hL,hz ▸ lay_ok hfine hL hO,hz ▸ hO,AB hw140⟩
def JC(c:Ai):Int:=if Ep c=true then Ec c c.Aa.xs.length - c.Kernel else 0
def errOf(c:Ai):Int:=if Ep c=true then 0 else 150
theorem need_calls(w:World)(c:Ai)(hc:Ai.ok Any w c):Calls Tryd.prog 96 #[.agg (Ai.arr c)] w fun e w'=>e = .returned (.tuple #[.int .i64 (JC c),.int .i64 (errOf c)])∧Ce (fun _=>False) w w':=by
 obtain⟨z,hz⟩:∃ z,z=w.heap.size:=⟨_,rfl⟩
 refine Bf (args:=[.agg (Ai.arr c)]) 19 ⟨w,z,[(Ak w)]⟩ Tryd.func96 rfl (by kernel_rfl) (by kernel_rfl) (Ed hz) ?_
 refine Di [0] [(0,.agg (Ai.arr c))] ?_
 refine q_c 6 1 [] [[o0,o0,o0],[(an 7 1)]] [Qb z,Qb z,Qb z,Qb z,Qb z,Qb z,Qb z] [(1,pt z),(7,.agg (Ai.arr c))] ⟨w,z+1,[(Ak w),(bk z (Ai.arr c) 26)]⟩ rfl ⟨rfl,rfl,rfl,rfl,rfl,rfl,rfl,Ae⟩ ?_
 refine l_call [] [] 30 #[.agg (Ai.arr c)] (some 8) Ae ?_
 intro w1 hw1
 by_cases hok2:Ep c=true
 ·refine(of_yes w1 c (hc.ext (hw1.ext rfl) (fun _ h=>h)) hok2).mono ?_
  rintro e w3 ⟨lw3,rfl,hIw3,hLw3,hOw3,hkw3⟩
  have hfw3:=Sz hok2;have hknw3:=hfw3.kn;have hEw3:=hIw3.fin;have hEbw3:=RF hfw3 _ (Nat.le_refl _);have hpnw3:=hfw3.pn
  rw[hw1.size]at hLw3 hOw3
  have hnw3:z+1≤w3.heap.size:=Ef hw1 hkw3
  refine⟨_,_,rfl,hw1.U1 hkw3, ?_⟩
  refine EI 15 0 [0] [[o0,o0,o0,o0,(an 4 3),o0],[o0,o0],[o0,(a1 3),o0,(a1 1),(ov (i6 (lw3.End - c.Kernel))),o0,o0]] [Qb w3.heap.size,Qb w3.heap.size,Qb w3.heap.size,Qb w3.heap.size,Qb w3.heap.size,Qb z,Wr ((lw3.End:Int) - c.Kernel) (lw3.End - c.Kernel)] [(2,i6 (lw3.End - c.Kernel)),(3,i6 0)] ⟨w,w3.heap.size+1,[(Ak w),(bk z (Ai.arr c) 26),(mid (z+1) w3),(.blk w3.heap.size (.cells (Ha.arr lw3) 58 (0,0)) true)]⟩ rfl ⟨rfl,rfl,rfl,rfl,rfl,rfl,BP,Ae⟩ ?_
  refine Az [] [] (.tuple #[i6 (lw3.End - c.Kernel),i6 0]) Ae ?_
  intro w4 hw4
  refine⟨?_,AB hw4⟩
  unfold JC errOf;rw[if_pos hok2,if_pos hok2];rw[←hEw3]
 refine(of_no w1 c (hc.ext (hw1.ext rfl) (fun _ h=>h)) (Bool.eq_false_iff.2 hok2)).mono ?_
 rintro e w5 ⟨rfl,hkw5⟩
 have hnw5:z+1≤w5.heap.size:=Ef hw1 hkw5
 refine⟨_,_,rfl,hw1.keeps hkw5, ?_⟩
 refine EI 13 0 [1] [[o0,o0,o0,o0,(an 4 2),o0],[o0,o0],[o0,o0,o0]] [Qb w5.heap.size,Qb w5.heap.size,Qb w5.heap.size,Qb w5.heap.size] [(2,i6 0),(3,i6 150)] ⟨w,w5.heap.size+1,[(Ak w),(bk z (Ai.arr c) 26),(.blk w5.heap.size (.cells #[i6 0,.slice none 0 0,.slice none 0 0,i6 0] 58 (0,0)) true)]⟩ rfl ⟨rfl,rfl,rfl,rfl,Ae⟩ ?_
 refine Az [] [] (.tuple #[i6 0,i6 150]) Ae ?_
 intro w6 hw6
 refine⟨?_,AB hw6⟩
 unfold JC errOf;rw[if_neg hok2,if_neg hok2]
end Go.Proofs.YtlccogilgegnfaaDoor.Ly
namespace Go.Proofs.YtlccogilgegnfaaDoor.Ad
open Go Go.Proofs.YtlccogilgegnfaaDoor.Eng Go.Proofs.YtlccogilgegnfaaDoor.Mem Go.Proofs.YtlccogilgegnfaaDoor.Ly
set_option linter.unusedSimpArgs false
set_option linter.unusedVariables false
set_option maxRecDepth 100000
def WW(c:Ai)(q n:Nat):Bool:=meet (DV c q n).Frame (DV c q n).AO c.Kernel c.Room
def UK(c:Ai)(q:Nat):Bool:=(List.range (Es c q).Ah.xs.length).any (WW c q)
def F9(c:Ai):Bool:=win c.Kernel 0 (c.Frames - 1)&&win c.Room 1 (c.Frames - c.Kernel) && !(List.range c.Aa.xs.length).any (UK c)&&(decide (errOf c=0)&&decide (JC c≤c.Room))
section
variable (n12:Nat)(y21:Aq)(z:Nat)(c:Ai)(b14 o15:Nat)(b25 o26:Nat)
abbrev Tq:=bk n12 (Aq.arr y21) 35
abbrev Oz:=bk z (Ai.arr c) 26
abbrev Nj:D7:=(28,.slice (some ⟨b14,o15,none⟩) c.Aa.xs.length c.Aa.cap)
abbrev Us:D7:=(35,.slice (some ⟨b25,o26,none⟩) y21.Ah.xs.length y21.Ah.cap)
abbrev RH:D7:=(28,.slice c.Aa.a c.Aa.xs.length c.Aa.cap)
abbrev Tc:D7:=(35,.slice y21.Ah.a y21.Ah.xs.length y21.Ah.cap)
abbrev Kz:=(29,Ac c.Aa.xs.length)
abbrev OB:=(36,Ac y21.Ah.xs.length)
end
theorem kernel_calls(w:World)(hL:Js w)(c:Ai)(hc:Ai.ok Any w c)(hFr:1≤c.Frames∧c.Frames≤1024)(hpf:∀ q,q<c.Aa.xs.length→CP c q=AQ):Calls Tryd.prog 76 #[.agg (Ai.arr c)] w fun e w'=>e = .returned (.bool (F9 c))∧Ce (fun _=>False) w w':=by
 obtain⟨z,hz⟩:∃ z,z=w.heap.size:=⟨_,rfl⟩
 refine Bf (args:=[.agg (Ai.arr c)]) 65 ⟨w,z,[(Ak w)]⟩ Tryd.func76 rfl (by kernel_rfl) (by kernel_rfl) (Ed hz) ?_
 have hpl:=hc.Aa.1.len;have hkk:(-9223372036854775808:Int)≤c.Kernel∧c.Kernel≤9223372036854775807:=hc.Kernel;have hrr:(-9223372036854775808:Int)≤c.Room∧c.Room≤9223372036854775807:=hc.Room
 refine Di [0] [(0,.agg (Ai.arr c))] ?_
 refine q_c 7 5 [] [[o0,o0],[o0,(a1 1),o0,(a1 1),(ov (i6 (c.Frames - 1)))]] [Qb z,Qb z,Wr ((c.Frames:Int) - 1) (c.Frames - 1)] [(1,pt z),(10,i6 c.Kernel),(13,i6 (c.Frames - 1))] ⟨w,z+1,[(Ak w),(Oz z c)]⟩ rfl ⟨rfl,rfl,BP,Ae⟩ ?_
 refine Ba 64 #[i6 c.Kernel,i6 0,i6 (c.Frames - 1)] (some 14) (.bool (win c.Kernel 0 (c.Frames - 1))) (fun w1 hw1=>BZ w1 c.Kernel 0 (c.Frames - 1)) (fun n2 (hn3:z+1≤n2) => ?_)
 refine Dh [1,14] [(1,pt z),(14,.bool (win c.Kernel 0 (c.Frames - 1)))] ?_
 by_cases h4:(win c.Kernel 0 (c.Frames - 1))=true
 ·have hd5:=Dz h4
  refine AZ 0 9 [] [[(ov (.bool false)),o0,o0,(a1 1),o0,(a1 1),o0,(a1 1),(ov (i6 (c.Frames - c.Kernel)))]] [Value.bool (!(win c.Kernel 0 (c.Frames - 1)))=Value.bool false,Qb z,Qb z,Qb z,Wr ((c.Frames:Int) - c.Kernel) (c.Frames - c.Kernel)] [(1,pt z),(16,.bool false),(18,i6 c.Room),(23,i6 (c.Frames - c.Kernel))] rfl ⟨by simp[h4],rfl,rfl,rfl,BP,Ae⟩ ?_
  refine Ba 64 #[i6 c.Room,i6 1,i6 (c.Frames - c.Kernel)] (some 24) (.bool (win c.Room 1 (c.Frames - c.Kernel))) (fun w6 hw6=>BZ w6 c.Room 1 (c.Frames - c.Kernel)) (fun n7 (hn8:n2≤n7) => ?_)
  refine Dh [1,16,24] [(1,pt z),(16,.bool false),(24,.bool (win c.Room 1 (c.Frames - c.Kernel)))] ?_
  by_cases h9:(win c.Room 1 (c.Frames - c.Kernel))=true
  ·have hd10:=Dz h9
   refine AZ 11 0 [0] [[(ov (.bool false)),o0],[o0,(a1 1),o0,o0]] [Value.bool (!(win c.Room 1 (c.Frames - c.Kernel)))=Value.bool false,Qb z] [(1,pt z),(RH c),(Kz c),(30,i6 0)] rfl ⟨by simp[h9],rfl,Ae⟩ ?_
   refine D8 (fun m a w'=>∃ (n12:Nat) (q:Nat),m=c.Aa.xs.length - q∧n7≤n12∧(q≤c.Aa.xs.length)∧(∀ a,a<q→UK c a=false)∧St 65 [(1,pt z),(RH c),(Kz c),(30,Ac q)] [] ⟨w,n12,[(Ak w),(Oz z c)]⟩ a w') (c.Aa.xs.length - 0) ?_ ?_
   ·intro a w' hs;exact⟨n7,0,rfl,Nat.le_refl _,Nat.zero_le _,fun i hi=>absurd hi (Nat.not_lt_zero i),hs⟩
   rintro m a w' ⟨n12,q,rfl,hn11,hkq,hg,hs⟩
   refine(?_:G Tryd.prog 65 [(1,pt z),(RH c),(Kz c),(30,Ac q)] [] ⟨w,n12,[(Ak w),(Oz z c)]⟩ _ _ _) a w' hs
   clear hs a w'
   refine CW ?_
   by_cases h13:(q:Int)<(c.Aa.xs.length:Int)
   ·refine Au 10 0 [1] [[oT]] [BT ((q:Int)<(c.Aa.xs.length:Int))] [(1,pt z),(RH c),(Kz c),(30,Ac q),(31,.bool true)] rfl ⟨bt,Ae⟩ ?_
    obtain⟨b14,o15,ha16,hF18,hc17⟩:=(hc.Aa).1.all (show 0<c.Aa.xs.length by omega)
    replace ha16:c.Aa.a=some ⟨b14,o15,none⟩:=ha16
    refine Lj [(1,pt z),(Nj c b14 o15),(Kz c),(30,Ac q),(31,.bool true)] (by(try dsimp only[Oz,Nj,RH,Kz]);simp only[ha16]) ?_
    have hc19:=hc17 q (show q<c.Aa.xs.length by omega)
    have he20:=(hc.Aa).2 q (show q<c.Aa.xs.length by omega)
    obtain⟨y21,hy21⟩:∃ y_,y_=gd c.Aa.xs q:=⟨_,rfl⟩
    rw[←hy21]at he20 hc19
    have hyly21:=he20.Ah.1.len
    refine q_c 8 0 [] [[(oi q),(ol 0 (Aq.arr y21)),o0,(an 8 2)],[o0,(a1 2),o0,o0]] [Dc q,q<c.Aa.xs.length,BM,GN w b14 (o15+q*8) (Aq.arr y21),Qb n12,Qb n12,Qb n12,Qb n12,Qb n12,Qb n12,Qb n12,Qb n12,Qb n12] [(1,pt z),(Nj c b14 o15),(Kz c),(30,Ac q),(Tc y21),(OB y21),(37,i6 0)] ⟨w,n12+1,[(Ak w),(Oz z c),(Tq n12 y21)]⟩ rfl ⟨rfl,(by omega),rfl,Em hc19,rfl,rfl,rfl,rfl,rfl,rfl,rfl,rfl,rfl,Ae⟩ ?_
    refine D8 (fun m a w'=>∃ (n23:Nat) (n:Nat),m=y21.Ah.xs.length - n∧n12+1≤n23∧(n≤y21.Ah.xs.length)∧(∀ a,a<n→WW c q a=false)∧St 65 [(1,pt z),(Nj c b14 o15),(Kz c),(30,Ac q),(Tc y21),(OB y21),(37,Ac n)] [] ⟨w,n23,[(Ak w),(Oz z c),(Tq n12 y21)]⟩ a w') (y21.Ah.xs.length - 0) ?_ ?_
    ·intro a w' hs;exact⟨(n12+1),0,rfl,Nat.le_refl _,Nat.zero_le _,fun i hi=>absurd hi (Nat.not_lt_zero i),hs⟩
    rintro m a w' ⟨n23,n,rfl,hn22,hkn,hh,hs⟩
    refine(?_:G Tryd.prog 65 [(1,pt z),(Nj c b14 o15),(Kz c),(30,Ac q),(Tc y21),(OB y21),(37,Ac n)] [] ⟨w,n23,[(Ak w),(Oz z c),(Tq n12 y21)]⟩ _ _ _) a w' hs
    clear hs a w'
    refine CW ?_
    by_cases h24:(n:Int)<(y21.Ah.xs.length:Int)
    ·refine Au 10 0 [1] [[oT]] [BT ((n:Int)<(y21.Ah.xs.length:Int))] [(1,pt z),(Nj c b14 o15),(Kz c),(30,Ac q),(Tc y21),(OB y21),(37,Ac n),(38,.bool true)] rfl ⟨bt,Ae⟩ ?_
     obtain⟨b25,o26,ha27,hF29,hc28⟩:=(he20.Ah).1.all (show 0<y21.Ah.xs.length by omega)
     replace ha27:y21.Ah.a=some ⟨b25,o26,none⟩:=ha27
     refine Lj [(1,pt z),(Nj c b14 o15),(Kz c),(30,Ac q),(Us y21 b25 o26),(OB y21),(37,Ac n),(38,.bool true)] (by(try dsimp only[Tq,Oz,Nj,Us,RH,Tc,Kz,OB]);simp only[ha27]) ?_
     have hc30:=hc28 n (show n<y21.Ah.xs.length by omega)
     have he31:=(he20.Ah).2 n (show n<y21.Ah.xs.length by omega)
     obtain⟨y32,hy32⟩:∃ y_,y_=gd y21.Ah.xs n:=⟨_,rfl⟩
     rw[←hy32]at he31 hc30
     refine q_c 5 8 [] [[(oi n),(ol 0 (CS.arr y32)),o0,(an 4 3)],[o0,(a1 3),o0,(a1 3),o0,(a1 1),o0,(a1 1)]] [Dc n,n<y21.Ah.xs.length,BM,GN w b25 (o26+n*4) (CS.arr y32),Qb n23,Qb n23,Qb n23,Qb n23,Qb n23,Qb n23,Qb z,Qb z] [(1,pt z),(Nj c b14 o15),(Kz c),(30,Ac q),(Us y21 b25 o26),(OB y21),(37,Ac n),(42,i6 y32.Frame),(44,i6 y32.AO),(46,i6 c.Kernel),(48,i6 c.Room)] ⟨w,n23+1,[(Ak w),(Oz z c),(Tq n12 y21),(bk n23 (CS.arr y32) 147)]⟩ rfl ⟨rfl,(by omega),rfl,Em hc30,rfl,rfl,rfl,rfl,rfl,rfl,rfl,rfl,Ae⟩ ?_
     have hm34:=Uy hFr.2 (O9 (hpf q (by omega))) n (by dsimp only[Es];rw[←hy21];omega);dsimp only[DV]at hm34;rw[←hy21,←hy32]at hm34;unfold Bd at hm34
     refine Ba 95 #[i6 y32.Frame,i6 y32.AO,i6 c.Kernel,i6 c.Room] (some 49) (.bool (meet y32.Frame y32.AO c.Kernel c.Room)) (fun w33 hw33=>TM w33 y32.Frame y32.AO c.Kernel c.Room (by omega) (by omega) (by omega) (by omega)) (fun n35 (hn36:n23+1≤n35) => ?_)
     refine Dh [1,28,29,30,35,36,37,49] [(1,pt z),(Nj c b14 o15),(Kz c),(30,Ac q),(Us y21 b25 o26),(OB y21),(37,Ac n),(49,.bool (meet y32.Frame y32.AO c.Kernel c.Room))] ?_
     refine Ve (by kernel_rfl) ?_
     refine Gy ?_
     by_cases h37:(meet y32.Frame y32.AO c.Kernel c.Room)=true
     ·refine Au 6 0 [3] [[o0]] [Value.bool (meet y32.Frame y32.AO c.Kernel c.Room)=Value.bool true] [(2,.bool false)] rfl ⟨(congrArg Value.bool h37),Ae⟩ ?_
      refine Az [] [] (.bool false) Ae ?_
      intro w38 hw38
      refine⟨congrArg (fun b=>Ending.returned (Value.bool b)) (?_:false=F9 c),AB hw38⟩
      have en:DV c q n=y32:=(by dsimp only[DV];rw[←hy21,←hy32])
      have eo:(List.range c.Aa.xs.length).any (UK c)=true:=range_any (k:=q) (by omega) (range_any (k:=n) (by dsimp only[Es];rw[←hy21];omega) (by unfold WW;rw[en];exact h37))
      unfold F9;simp[eo]
     refine Au 6 0 [2] [[(ov (i6 ((n+1:Nat):Int))),o0]] [Value.bool (meet y32.Frame y32.AO c.Kernel c.Room)=Value.bool false,Wr ((n:Int)+1) (((n+1:Nat):Int))] [(1,pt z),(Nj c b14 o15),(Kz c),(30,Ac q),(Us y21 b25 o26),(OB y21),(37,i6 ((n+1:Nat):Int))] rfl ⟨(congrArg Value.bool (Bool.eq_false_iff.2 h37)),BP,Ae⟩ ?_
     refine Cc [0,1,2] [(Ak w),(Oz z c),(Tq n12 y21)] rfl rfl ?_
     refine GH [1,28,29,30,35,36,37] [(1,pt z),(Nj c b14 o15),(Kz c),(30,Ac q),(Tc y21),(OB y21),(37,i6 ((n+1:Nat):Int))] (by(try dsimp only[Tq,Oz,Nj,Us,RH,Tc,Kz,OB]);simp only[ha27];rfl) ?_
     refine BR (fun a w' hs=>⟨y21.Ah.xs.length - (n+1),by omega,n35,(n+1),rfl,by omega,by omega,EP hh (by have en:DV c q n=y32:=(by dsimp only[DV];rw[←hy21,←hy32]);unfold WW;rw[en];simpa using h37),hs⟩)
    refine Au 13 0 [0] [[oF],[(ov (i6 ((q+1:Nat):Int))),o0]] [BF ((n:Int)<(y21.Ah.xs.length:Int)),Wr ((q:Int)+1) (((q+1:Nat):Int))] [(1,pt z),(Nj c b14 o15),(Kz c),(30,i6 ((q+1:Nat):Int))] rfl ⟨bf,BP,Ae⟩ ?_
    refine Cc [0,1] [(Ak w),(Oz z c)] rfl rfl ?_
    refine GH [1,28,29,30] [(1,pt z),(RH c),(Kz c),(30,i6 ((q+1:Nat):Int))] (by(try dsimp only[Tq,Oz,Nj,Us,RH,Tc,Kz,OB]);simp only[ha16];rfl) ?_
    refine BR (fun a w' hs=>⟨c.Aa.xs.length - (q+1),by omega,n23,(q+1),rfl,by omega,by omega,EP hg (Gv (fun i hi=>hh i (by dsimp only[Es]at hi;rw[←hy21]at hi;omega))),hs⟩)
   refine Au 12 1 [0] [[oF],[(an 7 1)]] [BF ((q:Int)<(c.Aa.xs.length:Int)),Qb z,Qb z,Qb z,Qb z,Qb z,Qb z,Qb z] [(1,pt z),(53,.agg (Ai.arr c))] rfl ⟨bf,rfl,rfl,rfl,rfl,rfl,rfl,rfl,Ae⟩ ?_
   refine Ba 96 #[.agg (Ai.arr c)] (some 54) (.tuple #[i6 (JC c),i6 (errOf c)]) (fun w39 hw39=>need_calls w39 c (hc.ext (hw39.ext rfl) (fun _ h=>h))) (fun n40 (hn41:n12≤n40) => ?_)
   refine AZ 3 0 [] [[o0,o0,o0,o0,o0]] [] [(1,pt z),(7,i6 (JC c)),(8,i6 (errOf c))] rfl Ae ?_
   by_cases h42:(errOf c:Int)=0
   ·by_cases h43:(c.Room:Int)<JC c
    ·refine Au 4 0 [] [[o0,oT,o0,o0,o0,(a1 1),oF,o0,o0]] [ET (errOf c) 0,Qb z,BF ((JC c:Int)≤c.Room)] [(2,.bool false)] rfl ⟨et,rfl,bf,Ae⟩ ?_
     refine Az [] [] (.bool false) Ae ?_
     intro w44 hw44
     refine⟨congrArg (fun b=>Ending.returned (Value.bool b)) (?_:false=F9 c),AB hw44⟩
     have eo:(List.range c.Aa.xs.length).any (UK c)=false:=Gv (fun i hi=>hg i (by omega))
     unfold F9;rw[eo];simp[h4,h9];first | done | omega
    refine Au 4 0 [] [[o0,oT,o0,o0,o0,(a1 1),oT,o0,o0]] [ET (errOf c) 0,Qb z,BT ((JC c:Int)≤c.Room)] [(2,.bool true)] rfl ⟨et,rfl,bt,Ae⟩ ?_
    refine Az [] [] (.bool true) Ae ?_
    intro w45 hw45
    refine⟨congrArg (fun b=>Ending.returned (Value.bool b)) (?_:true=F9 c),AB hw45⟩
    have eo:(List.range c.Aa.xs.length).any (UK c)=false:=Gv (fun i hi=>hg i (by omega))
    unfold F9;rw[eo];simp[h4,h9];first | done | omega
   refine Au 4 0 [] [[o0,oF,o0,o0,o0]] [EF (errOf c) 0] [(2,.bool false)] rfl ⟨ef,Ae⟩ ?_
   refine Az [] [] (.bool false) Ae ?_
   intro w46 hw46
   refine⟨congrArg (fun b=>Ending.returned (Value.bool b)) (?_:false=F9 c),AB hw46⟩
   have eo:(List.range c.Aa.xs.length).any (UK c)=false:=Gv (fun i hi=>hg i (by omega))
   unfold F9;rw[eo];simp[h4,h9];first | done | omega
  have hd47:=FI h9
  refine AZ 8 0 [1] [[(ov (.bool true)),o0],[o0]] [Value.bool (!(win c.Room 1 (c.Frames - c.Kernel)))=Value.bool true] [(2,.bool false)] rfl ⟨by simp[h9],Ae⟩ ?_
  refine Az [] [] (.bool false) Ae ?_
  intro w48 hw48
  refine⟨congrArg (fun b=>Ending.returned (Value.bool b)) (?_:false=F9 c),AB hw48⟩
  unfold F9;simp[h4,h9]
 have hd49:=FI h4
 refine AZ 8 0 [1] [[(ov (.bool true)),o0,o0],[o0]] [Value.bool (!(win c.Kernel 0 (c.Frames - 1)))=Value.bool true] [(2,.bool false)] rfl ⟨by simp[h4],Ae⟩ ?_
 refine Az [] [] (.bool false) Ae ?_
 intro w50 hw50
 refine⟨congrArg (fun b=>Ending.returned (Value.bool b)) (?_:false=F9 c),AB hw50⟩
 unfold F9;simp[h4]
def Gi(c:Ai):Am:=Af (win c.Frames 1 1024) 400 ⟨-1, -1⟩
def whole2(c:Ai):Am:=Af (win c.Gg 1 16384) 401 ⟨-1, -1⟩
def Gq(c:Ai):Am:=Af (win (c.Bc.xs.length:Int) 1 4) 402 ⟨-1, -1⟩
def Gm(c:Ai):Am:=Af (win (c.Aa.xs.length:Int) 1 8) 403 ⟨-1, -1⟩
def FC(c:Ai):Am:=Af (decide ((c.Aj.xs.length:Int)≤16)) 404 ⟨-1, -1⟩
def I4(c:Ai):Am:=Af (F9 c) 423 ⟨-1, -1⟩
theorem q1_calls(w:World)(hL:Js w)(c:Ai)(hc:Ai.ok Any w c)(bc:Nat)(hbc:∀ (k:Nat) (v:Value),(Ai.cells c)[k]? = some v→w.cell? ⟨bc,0+k,none⟩=some v):Calls Tryd.prog 62 #[.pointer (some ⟨bc,0,none⟩)] w fun e w'=>e = .returned (.agg (Am.arr (Gi c)))∧Ce (fun _=>False) w w':=by
 obtain⟨z,hz⟩:∃ z,z=w.heap.size:=⟨_,rfl⟩
 refine Bf (args:=[pt bc]) 7 ⟨w,z,[(Ak w)]⟩ Tryd.func62 rfl (by kernel_rfl) (by kernel_rfl) (Ed hz) ?_
 have hpl:=hc.Aa.1.len;have hpc:=hc.Bc.1.len;have hpch:=hc.Aj.1.len
 refine Di [0] [(0,pt bc)] ?_
 refine q_c 5 0 [] [[o0]] [] [(0,pt bc),(1,pt z)] ⟨w,z+1,[(Ak w),(bk z #[i6 0,i6 0,i6 0] 132)]⟩ rfl Ae ?_
 refine DZ 5 [0,1] [(Ak w),(bk z #[i6 0,i6 0,i6 0] 132)] rfl rfl ?_
 refine Ll [.tk 0 o0,.tk 1 (oa [.via 0 (i6 c.Frames)]),.tk 3 (oa [.via 0 (i6 (-1)),.via 0 (i6 (-1))]),.cl 2 (.bool (win c.Frames 1 1024)),.cl 4 (.agg (Am.arr (Af (win c.Frames 1 1024) 400 ⟨-1, -1⟩)))] [1,6] [(64,#[i6 c.Frames,i6 1,i6 1024],.bool (win c.Frames 1 1024)),(63,#[.bool (win c.Frames 1 1024),i6 400,.agg #[i6 (-1),i6 (-1)]],.agg (Am.arr (Af (win c.Frames 1 1024) 400 ⟨-1, -1⟩)))] (Dw 5 1) [Old w bc 0 (i6 c.Frames),Old w 1 0 (i6 (-1)),Old w 1 1 (i6 (-1))] [(1,pt z),(6,.agg (Am.arr (Af (win c.Frames 1 1024) 400 ⟨-1, -1⟩)))] [0,1] ⟨Aw (hbc 0 _ rfl),Aw (hL.1 0 _ rfl),Aw (hL.1 1 _ rfl),Ae⟩ ⟨fun w1 hw1=>BZ w1 c.Frames 1 1024,fun w2 hw2=>Bo w2 (hL.ext (hw2.ext rfl)) (win c.Frames 1 1024) 400 (-1) (-1),Ae⟩ (fun n3 hn4 => ?_)
 replace hn4:z+1≤n3:=hn4
 refine Bq 5 ?_
 refine BC (an 3 1) [1] [Qb z,Qb z,Qb z] [(1,pt z)] ⟨w,n3,[(Ak w),(.blk z (.cells (Am.arr (Af (win c.Frames 1 1024) 400 ⟨-1, -1⟩)) 132 (0,0)) true)]⟩ [] ⟨rfl,rfl,rfl,Ae⟩ (.inl rfl) ?_
 refine DX 6 [0,1] [(Ak w),(.blk z (.cells (Am.arr (Af (win c.Frames 1 1024) 400 ⟨-1, -1⟩)) 132 (0,0)) true)] rfl rfl ?_
 refine CE ?_
 refine BI [1] [(1,pt z)] ?_
 refine Gy <| Iu <| Az [.at 1,.at 1,.at 1] [Qb z,Qb z,Qb z] (.agg #[i6 ((Af (win c.Frames 1 1024) 400 ⟨-1, -1⟩).e),i6 ((Af (win c.Frames 1 1024) 400 ⟨-1, -1⟩).Ag.First),i6 ((Af (win c.Frames 1 1024) 400 ⟨-1, -1⟩).Ag.Second)]) ⟨rfl,rfl,rfl,Ae⟩ ?_
 intro w5 hw5
 exact⟨congrArg (fun t=>Ending.returned (Value.agg (Am.arr t))) (show(Af (win c.Frames 1 1024) 400 ⟨-1, -1⟩)=Gi c from by unfold Gi;first | rfl | rw[decide_eq_false (by omega)] | rw[decide_eq_true (by omega)]),AB hw5⟩
theorem q2_calls(w:World)(hL:Js w)(c:Ai)(hc:Ai.ok Any w c)(bc:Nat)(hbc:∀ (k:Nat) (v:Value),(Ai.cells c)[k]? = some v→w.cell? ⟨bc,0+k,none⟩=some v):Calls Tryd.prog 65 #[.pointer (some ⟨bc,0,none⟩)] w fun e w'=>e = .returned (.agg (Am.arr (whole2 c)))∧Ce (fun _=>False) w w':=by
 obtain⟨z,hz⟩:∃ z,z=w.heap.size:=⟨_,rfl⟩
 refine Bf (args:=[pt bc]) 7 ⟨w,z,[(Ak w)]⟩ Tryd.func65 rfl (by kernel_rfl) (by kernel_rfl) (Ed hz) ?_
 have hpl:=hc.Aa.1.len;have hpc:=hc.Bc.1.len;have hpch:=hc.Aj.1.len
 refine Di [0] [(0,pt bc)] ?_
 refine q_c 5 0 [] [[o0]] [] [(0,pt bc),(1,pt z)] ⟨w,z+1,[(Ak w),(bk z #[i6 0,i6 0,i6 0] 132)]⟩ rfl Ae ?_
 refine DZ 5 [0,1] [(Ak w),(bk z #[i6 0,i6 0,i6 0] 132)] rfl rfl ?_
 refine Ll [.tk 0 o0,.tk 1 (oa [.via 0 (i6 c.Gg)]),.tk 3 (oa [.via 0 (i6 (-1)),.via 0 (i6 (-1))]),.cl 2 (.bool (win c.Gg 1 16384)),.cl 4 (.agg (Am.arr (Af (win c.Gg 1 16384) 401 ⟨-1, -1⟩)))] [1,6] [(64,#[i6 c.Gg,i6 1,i6 16384],.bool (win c.Gg 1 16384)),(63,#[.bool (win c.Gg 1 16384),i6 401,.agg #[i6 (-1),i6 (-1)]],.agg (Am.arr (Af (win c.Gg 1 16384) 401 ⟨-1, -1⟩)))] (Dw 5 1) [Old w bc 1 (i6 c.Gg),Old w 1 0 (i6 (-1)),Old w 1 1 (i6 (-1))] [(1,pt z),(6,.agg (Am.arr (Af (win c.Gg 1 16384) 401 ⟨-1, -1⟩)))] [0,1] ⟨Aw (hbc 1 _ rfl),Aw (hL.1 0 _ rfl),Aw (hL.1 1 _ rfl),Ae⟩ ⟨fun w1 hw1=>BZ w1 c.Gg 1 16384,fun w2 hw2=>Bo w2 (hL.ext (hw2.ext rfl)) (win c.Gg 1 16384) 401 (-1) (-1),Ae⟩ (fun n3 hn4 => ?_)
 replace hn4:z+1≤n3:=hn4
 refine Bq 5 ?_
 refine BC (an 3 1) [1] [Qb z,Qb z,Qb z] [(1,pt z)] ⟨w,n3,[(Ak w),(.blk z (.cells (Am.arr (Af (win c.Gg 1 16384) 401 ⟨-1, -1⟩)) 132 (0,0)) true)]⟩ [] ⟨rfl,rfl,rfl,Ae⟩ (.inl rfl) ?_
 refine DX 6 [0,1] [(Ak w),(.blk z (.cells (Am.arr (Af (win c.Gg 1 16384) 401 ⟨-1, -1⟩)) 132 (0,0)) true)] rfl rfl ?_
 refine CE ?_
 refine BI [1] [(1,pt z)] ?_
 refine Gy <| Iu <| Az [.at 1,.at 1,.at 1] [Qb z,Qb z,Qb z] (.agg #[i6 ((Af (win c.Gg 1 16384) 401 ⟨-1, -1⟩).e),i6 ((Af (win c.Gg 1 16384) 401 ⟨-1, -1⟩).Ag.First),i6 ((Af (win c.Gg 1 16384) 401 ⟨-1, -1⟩).Ag.Second)]) ⟨rfl,rfl,rfl,Ae⟩ ?_
 intro w5 hw5
 exact⟨congrArg (fun t=>Ending.returned (Value.agg (Am.arr t))) (show(Af (win c.Gg 1 16384) 401 ⟨-1, -1⟩)=whole2 c from by unfold whole2;first | rfl | rw[decide_eq_false (by omega)] | rw[decide_eq_true (by omega)]),AB hw5⟩
section
variable (z:Nat)(c:Ai)
abbrev qis8_0:Ch:= .blk z (.cells (Am.arr (Af (win (c.Bc.xs.length:Int) 1 4) 402 ⟨-1, -1⟩)) 132 (0,0)) true
end
theorem q3_calls(w:World)(hL:Js w)(c:Ai)(hc:Ai.ok Any w c)(bc:Nat)(hbc:∀ (k:Nat) (v:Value),(Ai.cells c)[k]? = some v→w.cell? ⟨bc,0+k,none⟩=some v):Calls Tryd.prog 66 #[.pointer (some ⟨bc,0,none⟩)] w fun e w'=>e = .returned (.agg (Am.arr (Gq c)))∧Ce (fun _=>False) w w':=by
 obtain⟨z,hz⟩:∃ z,z=w.heap.size:=⟨_,rfl⟩
 refine Bf (args:=[pt bc]) 8 ⟨w,z,[(Ak w)]⟩ Tryd.func66 rfl (by kernel_rfl) (by kernel_rfl) (Ed hz) ?_
 have hpl:=hc.Aa.1.len;have hpc:=hc.Bc.1.len;have hpch:=hc.Aj.1.len
 refine Di [0] [(0,pt bc)] ?_
 refine q_c 5 0 [] [[o0]] [] [(0,pt bc),(1,pt z)] ⟨w,z+1,[(Ak w),(bk z #[i6 0,i6 0,i6 0] 132)]⟩ rfl Ae ?_
 refine DZ 6 [0,1] [(Ak w),(bk z #[i6 0,i6 0,i6 0] 132)] rfl rfl ?_
 refine Ll [.tk 0 o0,.tk 1 (oa [.via 0 (.slice c.Bc.a c.Bc.xs.length c.Bc.cap)]),.tk 2 o0,.tk 4 (oa [.via 0 (i6 (-1)),.via 0 (i6 (-1))]),.cl 3 (.bool (win (c.Bc.xs.length:Int) 1 4)),.cl 5 (.agg (Am.arr (Af (win (c.Bc.xs.length:Int) 1 4) 402 ⟨-1, -1⟩)))] [1,7] [(64,#[(Ac c.Bc.xs.length),i6 1,i6 4],.bool (win (c.Bc.xs.length:Int) 1 4)),(63,#[.bool (win (c.Bc.xs.length:Int) 1 4),i6 402,.agg #[i6 (-1),i6 (-1)]],.agg (Am.arr (Af (win (c.Bc.xs.length:Int) 1 4) 402 ⟨-1, -1⟩)))] (Dw 6 1) [Old w bc 4 (.slice c.Bc.a c.Bc.xs.length c.Bc.cap),Old w 1 0 (i6 (-1)),Old w 1 1 (i6 (-1))] [(1,pt z),(7,.agg (Am.arr (Af (win (c.Bc.xs.length:Int) 1 4) 402 ⟨-1, -1⟩)))] [0,1] ⟨Aw (hbc 4 _ rfl),Aw (hL.1 0 _ rfl),Aw (hL.1 1 _ rfl),Ae⟩ ⟨fun w1 hw1=>BZ w1 (c.Bc.xs.length:Int) 1 4,fun w2 hw2=>Bo w2 (hL.ext (hw2.ext rfl)) (win (c.Bc.xs.length:Int) 1 4) 402 (-1) (-1),Ae⟩ (fun n3 hn4 => ?_)
 replace hn4:z+1≤n3:=hn4
 refine Bq 6 ?_
 refine BC (an 3 1) [1] [Qb z,Qb z,Qb z] [(1,pt z)] ⟨w,n3,[(Ak w),(qis8_0 z c)]⟩ [] ⟨rfl,rfl,rfl,Ae⟩ (.inl rfl) ?_
 refine DX 7 [0,1] [(Ak w),(qis8_0 z c)] rfl rfl ?_
 refine CE ?_
 refine BI [1] [(1,pt z)] ?_
 refine Gy <| Iu <| Az [.at 1,.at 1,.at 1] [Qb z,Qb z,Qb z] (.agg #[i6 ((Af (win (c.Bc.xs.length:Int) 1 4) 402 ⟨-1, -1⟩).e),i6 ((Af (win (c.Bc.xs.length:Int) 1 4) 402 ⟨-1, -1⟩).Ag.First),i6 ((Af (win (c.Bc.xs.length:Int) 1 4) 402 ⟨-1, -1⟩).Ag.Second)]) ⟨rfl,rfl,rfl,Ae⟩ ?_
 intro w5 hw5
 exact⟨congrArg (fun t=>Ending.returned (Value.agg (Am.arr t))) (show(Af (win (c.Bc.xs.length:Int) 1 4) 402 ⟨-1, -1⟩)=Gq c from by unfold Gq;first | rfl | rw[decide_eq_false (by omega)] | rw[decide_eq_true (by omega)]),AB hw5⟩
section
variable (z:Nat)(c:Ai)
abbrev qimu_0:Ch:= .blk z (.cells (Am.arr (Af (win (c.Aa.xs.length:Int) 1 8) 403 ⟨-1, -1⟩)) 132 (0,0)) true
end
theorem q4_calls(w:World)(hL:Js w)(c:Ai)(hc:Ai.ok Any w c)(bc:Nat)(hbc:∀ (k:Nat) (v:Value),(Ai.cells c)[k]? = some v→w.cell? ⟨bc,0+k,none⟩=some v):Calls Tryd.prog 67 #[.pointer (some ⟨bc,0,none⟩)] w fun e w'=>e = .returned (.agg (Am.arr (Gm c)))∧Ce (fun _=>False) w w':=by
 obtain⟨z,hz⟩:∃ z,z=w.heap.size:=⟨_,rfl⟩
 refine Bf (args:=[pt bc]) 8 ⟨w,z,[(Ak w)]⟩ Tryd.func67 rfl (by kernel_rfl) (by kernel_rfl) (Ed hz) ?_
 have hpl:=hc.Aa.1.len;have hpc:=hc.Bc.1.len;have hpch:=hc.Aj.1.len
 refine Di [0] [(0,pt bc)] ?_
 refine q_c 5 0 [] [[o0]] [] [(0,pt bc),(1,pt z)] ⟨w,z+1,[(Ak w),(bk z #[i6 0,i6 0,i6 0] 132)]⟩ rfl Ae ?_
 refine DZ 6 [0,1] [(Ak w),(bk z #[i6 0,i6 0,i6 0] 132)] rfl rfl ?_
 refine Ll [.tk 0 o0,.tk 1 (oa [.via 0 (.slice c.Aa.a c.Aa.xs.length c.Aa.cap)]),.tk 2 o0,.tk 4 (oa [.via 0 (i6 (-1)),.via 0 (i6 (-1))]),.cl 3 (.bool (win (c.Aa.xs.length:Int) 1 8)),.cl 5 (.agg (Am.arr (Af (win (c.Aa.xs.length:Int) 1 8) 403 ⟨-1, -1⟩)))] [1,7] [(64,#[(Ac c.Aa.xs.length),i6 1,i6 8],.bool (win (c.Aa.xs.length:Int) 1 8)),(63,#[.bool (win (c.Aa.xs.length:Int) 1 8),i6 403,.agg #[i6 (-1),i6 (-1)]],.agg (Am.arr (Af (win (c.Aa.xs.length:Int) 1 8) 403 ⟨-1, -1⟩)))] (Dw 6 1) [Old w bc 5 (.slice c.Aa.a c.Aa.xs.length c.Aa.cap),Old w 1 0 (i6 (-1)),Old w 1 1 (i6 (-1))] [(1,pt z),(7,.agg (Am.arr (Af (win (c.Aa.xs.length:Int) 1 8) 403 ⟨-1, -1⟩)))] [0,1] ⟨Aw (hbc 5 _ rfl),Aw (hL.1 0 _ rfl),Aw (hL.1 1 _ rfl),Ae⟩ ⟨fun w1 hw1=>BZ w1 (c.Aa.xs.length:Int) 1 8,fun w2 hw2=>Bo w2 (hL.ext (hw2.ext rfl)) (win (c.Aa.xs.length:Int) 1 8) 403 (-1) (-1),Ae⟩ (fun n3 hn4 => ?_)
 replace hn4:z+1≤n3:=hn4
 refine Bq 6 ?_
 refine BC (an 3 1) [1] [Qb z,Qb z,Qb z] [(1,pt z)] ⟨w,n3,[(Ak w),(qimu_0 z c)]⟩ [] ⟨rfl,rfl,rfl,Ae⟩ (.inl rfl) ?_
 refine DX 7 [0,1] [(Ak w),(qimu_0 z c)] rfl rfl ?_
 refine CE ?_
 refine BI [1] [(1,pt z)] ?_
 refine Gy <| Iu <| Az [.at 1,.at 1,.at 1] [Qb z,Qb z,Qb z] (.agg #[i6 ((Af (win (c.Aa.xs.length:Int) 1 8) 403 ⟨-1, -1⟩).e),i6 ((Af (win (c.Aa.xs.length:Int) 1 8) 403 ⟨-1, -1⟩).Ag.First),i6 ((Af (win (c.Aa.xs.length:Int) 1 8) 403 ⟨-1, -1⟩).Ag.Second)]) ⟨rfl,rfl,rfl,Ae⟩ ?_
 intro w5 hw5
 exact⟨congrArg (fun t=>Ending.returned (Value.agg (Am.arr t))) (show(Af (win (c.Aa.xs.length:Int) 1 8) 403 ⟨-1, -1⟩)=Gm c from by unfold Gm;first | rfl | rw[decide_eq_false (by omega)] | rw[decide_eq_true (by omega)]),AB hw5⟩
theorem q5_calls(w:World)(hL:Js w)(c:Ai)(hc:Ai.ok Any w c)(bc:Nat)(hbc:∀ (k:Nat) (v:Value),(Ai.cells c)[k]? = some v→w.cell? ⟨bc,0+k,none⟩=some v):Calls Tryd.prog 68 #[.pointer (some ⟨bc,0,none⟩)] w fun e w'=>e = .returned (.agg (Am.arr (FC c)))∧Ce (fun _=>False) w w':=by
 obtain⟨z,hz⟩:∃ z,z=w.heap.size:=⟨_,rfl⟩
 refine Bf (args:=[pt bc]) 8 ⟨w,z,[(Ak w)]⟩ Tryd.func68 rfl (by kernel_rfl) (by kernel_rfl) (Ed hz) ?_
 have hpl:=hc.Aa.1.len;have hpc:=hc.Bc.1.len;have hpch:=hc.Aj.1.len
 refine Di [0] [(0,pt bc)] ?_
 refine q_c 5 0 [] [[o0]] [] [(0,pt bc),(1,pt z)] ⟨w,z+1,[(Ak w),(bk z #[i6 0,i6 0,i6 0] 132)]⟩ rfl Ae ?_
 by_cases h1:(16:Int)<(c.Aj.xs.length:Int)
 ·refine Au 1 5 [] [[o0,(oa [.via 0 (.slice c.Aj.a c.Aj.xs.length c.Aj.cap)]),o0,oF,(oa [.via 0 (i6 (-1)),.via 0 (i6 (-1))])]] [Old w bc 6 (.slice c.Aj.a c.Aj.xs.length c.Aj.cap),BF ((c.Aj.xs.length:Int)≤16),Old w 1 0 (i6 (-1)),Old w 1 1 (i6 (-1))] [(1,pt z),(5,.bool false),(6,.agg #[i6 (-1),i6 (-1)])] rfl ⟨Aw (hbc 6 _ rfl),bf,Aw (hL.1 0 _ rfl),Aw (hL.1 1 _ rfl),Ae⟩ ?_
  refine Ba 63 #[.bool false,i6 404,.agg #[i6 (-1),i6 (-1)]] (some 7) (.agg (Am.arr (Af false 404 ⟨-1, -1⟩))) (fun w2 hw2=>Bo w2 (hL.ext (hw2.ext rfl)) false 404 (-1) (-1)) (fun n3 (hn4:z+1≤n3) => ?_)
  refine EI 3 0 [] [[(an 3 1)]] [Qb z,Qb z,Qb z] [(1,pt z)] ⟨w,n3,[(Ak w),(bk z (Am.arr (Af false 404 ⟨-1, -1⟩)) 132)]⟩ rfl ⟨rfl,rfl,rfl,Ae⟩ ?_
  refine Az [.at 1,.at 1,.at 1] [Qb z,Qb z,Qb z] (.agg #[i6 ((Af false 404 ⟨-1, -1⟩).e),i6 ((Af false 404 ⟨-1, -1⟩).Ag.First),i6 ((Af false 404 ⟨-1, -1⟩).Ag.Second)]) ⟨rfl,rfl,rfl,Ae⟩ ?_
  intro w5 hw5
  exact⟨congrArg (fun t=>Ending.returned (Value.agg (Am.arr t))) (show(Af false 404 ⟨-1, -1⟩)=FC c from by unfold FC;first | rfl | rw[decide_eq_false (by omega)] | rw[decide_eq_true (by omega)]),AB hw5⟩
 refine Au 1 5 [] [[o0,(oa [.via 0 (.slice c.Aj.a c.Aj.xs.length c.Aj.cap)]),o0,oT,(oa [.via 0 (i6 (-1)),.via 0 (i6 (-1))])]] [Old w bc 6 (.slice c.Aj.a c.Aj.xs.length c.Aj.cap),BT ((c.Aj.xs.length:Int)≤16),Old w 1 0 (i6 (-1)),Old w 1 1 (i6 (-1))] [(1,pt z),(5,.bool true),(6,.agg #[i6 (-1),i6 (-1)])] rfl ⟨Aw (hbc 6 _ rfl),bt,Aw (hL.1 0 _ rfl),Aw (hL.1 1 _ rfl),Ae⟩ ?_
 refine Ba 63 #[.bool true,i6 404,.agg #[i6 (-1),i6 (-1)]] (some 7) (.agg (Am.arr (Af true 404 ⟨-1, -1⟩))) (fun w6 hw6=>Bo w6 (hL.ext (hw6.ext rfl)) true 404 (-1) (-1)) (fun n7 (hn8:z+1≤n7) => ?_)
 refine EI 3 0 [] [[(an 3 1)]] [Qb z,Qb z,Qb z] [(1,pt z)] ⟨w,n7,[(Ak w),(bk z (Am.arr (Af true 404 ⟨-1, -1⟩)) 132)]⟩ rfl ⟨rfl,rfl,rfl,Ae⟩ ?_
 refine Az [.at 1,.at 1,.at 1] [Qb z,Qb z,Qb z] (.agg #[i6 ((Af true 404 ⟨-1, -1⟩).e),i6 ((Af true 404 ⟨-1, -1⟩).Ag.First),i6 ((Af true 404 ⟨-1, -1⟩).Ag.Second)]) ⟨rfl,rfl,rfl,Ae⟩ ?_
 intro w9 hw9
 exact⟨congrArg (fun t=>Ending.returned (Value.agg (Am.arr t))) (show(Af true 404 ⟨-1, -1⟩)=FC c from by unfold FC;first | rfl | rw[decide_eq_false (by omega)] | rw[decide_eq_true (by omega)]),AB hw9⟩
theorem q6_calls(w:World)(hL:Js w)(c:Ai)(hc:Ai.ok Any w c)(bc:Nat)(hbc:∀ (k:Nat) (v:Value),(Ai.cells c)[k]? = some v→w.cell? ⟨bc,0+k,none⟩=some v)(b p:Nat)(hb:∀ (k:Nat) (v:Value),[Value.int .i64 (p:Nat)][k]? = some v→w.cell? ⟨b,0+k,none⟩=some v)(hp:p<c.Aa.xs.length)(hFr:1≤c.Frames∧c.Frames≤1024)(hpf:∀ q,q<p→CP c q=AQ):Calls Tryd.prog 69 #[.pointer (some ⟨bc,0,none⟩),.pointer (some ⟨b,0,none⟩)] w fun e w'=>e = .returned (.agg (Am.arr (CP c p)))∧Ce (fun _=>False) w w':=by
 obtain⟨z,hz⟩:∃ z,z=w.heap.size:=⟨_,rfl⟩
 refine Bf (args:=[pt bc,pt b]) 6 ⟨w,z,[(Ak w)]⟩ Tryd.func69 rfl (by kernel_rfl) (by kernel_rfl) (Ed hz) ?_
 have hpl:=hc.Aa.1.len;have hpc:=hc.Bc.1.len;have hpch:=hc.Aj.1.len
 refine Di [0,1] [(0,pt bc),(1,pt b)] ?_
 refine q_c 6 2 [] [[o0],[(ol 0 (Ai.arr c)),(oa [.via 0 (Ac p)])]] [GN w bc 0 (Ai.arr c),Old w b 0 (Ac p)] [(2,pt z),(3,.agg (Ai.arr c)),(4,Ac p)] ⟨w,z+1,[(Ak w),(bk z #[i6 0,i6 0,i6 0] 132)]⟩ rfl ⟨Em hbc,Aw (hb 0 _ rfl),Ae⟩ ?_
 refine Ba 70 #[.agg (Ai.arr c),Ac p] (some 5) (.agg (Am.arr (CP c p))) (fun w1 hw1=>Rf w1 (hL.ext (hw1.ext rfl)) c (hc.ext (hw1.ext rfl) (fun _ h=>h)) p hp hFr hpf) (fun n2 (hn3:z+1≤n2) => ?_)
 refine EI 3 0 [] [[(an 3 1)]] [Qb z,Qb z,Qb z] [(2,pt z)] ⟨w,n2,[(Ak w),(bk z (Am.arr (CP c p)) 132)]⟩ rfl ⟨rfl,rfl,rfl,Ae⟩ ?_
 refine Az [.at 1,.at 1,.at 1] [Qb z,Qb z,Qb z] (.agg #[i6 ((CP c p).e),i6 ((CP c p).Ag.First),i6 ((CP c p).Ag.Second)]) ⟨rfl,rfl,rfl,Ae⟩ ?_
 intro w4 hw4
 exact⟨rfl,AB hw4⟩
theorem q7_calls(w:World)(hL:Js w)(c:Ai)(hc:Ai.ok Any w c)(bc:Nat)(hbc:∀ (k:Nat) (v:Value),(Ai.cells c)[k]? = some v→w.cell? ⟨bc,0+k,none⟩=some v)(b p:Nat)(hb:∀ (k:Nat) (v:Value),[Value.int .i64 (p:Nat)][k]? = some v→w.cell? ⟨b,0+k,none⟩=some v)(hp:p<c.Aj.xs.length)(hm:c.Aa.xs.length≤1024)(hq:∀ p,p<c.Aa.xs.length→(gd c.Aa.xs p).Ap.xs.length≤1024):Calls Tryd.prog 71 #[.pointer (some ⟨bc,0,none⟩),.pointer (some ⟨b,0,none⟩)] w fun e w'=>e = .returned (.agg (Am.arr (Dp c p)))∧Ce (fun _=>False) w w':=by
 obtain⟨z,hz⟩:∃ z,z=w.heap.size:=⟨_,rfl⟩
 refine Bf (args:=[pt bc,pt b]) 6 ⟨w,z,[(Ak w)]⟩ Tryd.func71 rfl (by kernel_rfl) (by kernel_rfl) (Ed hz) ?_
 have hpl:=hc.Aa.1.len;have hpc:=hc.Bc.1.len;have hpch:=hc.Aj.1.len
 refine Di [0,1] [(0,pt bc),(1,pt b)] ?_
 refine q_c 6 2 [] [[o0],[(ol 0 (Ai.arr c)),(oa [.via 0 (Ac p)])]] [GN w bc 0 (Ai.arr c),Old w b 0 (Ac p)] [(2,pt z),(3,.agg (Ai.arr c)),(4,Ac p)] ⟨w,z+1,[(Ak w),(bk z #[i6 0,i6 0,i6 0] 132)]⟩ rfl ⟨Em hbc,Aw (hb 0 _ rfl),Ae⟩ ?_
 refine Ba 72 #[.agg (Ai.arr c),Ac p] (some 5) (.agg (Am.arr (Dp c p))) (fun w1 hw1=>channel_calls w1 (hL.ext (hw1.ext rfl)) c (hc.ext (hw1.ext rfl) (fun _ h=>h)) p hp hm hq) (fun n2 (hn3:z+1≤n2) => ?_)
 refine EI 3 0 [] [[(an 3 1)]] [Qb z,Qb z,Qb z] [(2,pt z)] ⟨w,n2,[(Ak w),(bk z (Am.arr (Dp c p)) 132)]⟩ rfl ⟨rfl,rfl,rfl,Ae⟩ ?_
 refine Az [.at 1,.at 1,.at 1] [Qb z,Qb z,Qb z] (.agg #[i6 ((Dp c p).e),i6 ((Dp c p).Ag.First),i6 ((Dp c p).Ag.Second)]) ⟨rfl,rfl,rfl,Ae⟩ ?_
 intro w4 hw4
 exact⟨rfl,AB hw4⟩
theorem q8_calls(w:World)(hL:Js w)(c:Ai)(hc:Ai.ok Any w c)(bc:Nat)(hbc:∀ (k:Nat) (v:Value),(Ai.cells c)[k]? = some v→w.cell? ⟨bc,0+k,none⟩=some v)(b p:Nat)(hb:∀ (k:Nat) (v:Value),[Value.int .i64 (p:Nat)][k]? = some v→w.cell? ⟨b,0+k,none⟩=some v)(hp:p<c.Bc.xs.length)  : Calls Tryd.prog 73 #[.pointer (some ⟨bc,0,none⟩),.pointer (some ⟨b,0,none⟩)] w fun e w'=>e = .returned (.agg (Am.arr (Ea c p)))∧Ce (fun _=>False) w w':=by
 obtain⟨z,hz⟩:∃ z,z=w.heap.size:=⟨_,rfl⟩
 refine Bf (args:=[pt bc,pt b]) 6 ⟨w,z,[(Ak w)]⟩ Tryd.func73 rfl (by kernel_rfl) (by kernel_rfl) (Ed hz) ?_
 have hpl:=hc.Aa.1.len;have hpc:=hc.Bc.1.len;have hpch:=hc.Aj.1.len
 refine Di [0,1] [(0,pt bc),(1,pt b)] ?_
 refine q_c 6 2 [] [[o0],[(ol 0 (Ai.arr c)),(oa [.via 0 (Ac p)])]] [GN w bc 0 (Ai.arr c),Old w b 0 (Ac p)] [(2,pt z),(3,.agg (Ai.arr c)),(4,Ac p)] ⟨w,z+1,[(Ak w),(bk z #[i6 0,i6 0,i6 0] 132)]⟩ rfl ⟨Em hbc,Aw (hb 0 _ rfl),Ae⟩ ?_
 refine Ba 74 #[.agg (Ai.arr c),Ac p] (some 5) (.agg (Am.arr (Ea c p))) (fun w1 hw1=>core_calls w1 (hL.ext (hw1.ext rfl)) c (hc.ext (hw1.ext rfl) (fun _ h=>h)) p hp) (fun n2 (hn3:z+1≤n2) => ?_)
 refine EI 3 0 [] [[(an 3 1)]] [Qb z,Qb z,Qb z] [(2,pt z)] ⟨w,n2,[(Ak w),(bk z (Am.arr (Ea c p)) 132)]⟩ rfl ⟨rfl,rfl,rfl,Ae⟩ ?_
 refine Az [.at 1,.at 1,.at 1] [Qb z,Qb z,Qb z] (.agg #[i6 ((Ea c p).e),i6 ((Ea c p).Ag.First),i6 ((Ea c p).Ag.Second)]) ⟨rfl,rfl,rfl,Ae⟩ ?_
 intro w4 hw4
 exact⟨rfl,AB hw4⟩
theorem q9_calls(w:World)(hL:Js w)(c:Ai)(hc:Ai.ok Any w c)(bc:Nat)(hbc:∀ (k:Nat) (v:Value),(Ai.cells c)[k]? = some v→w.cell? ⟨bc,0+k,none⟩=some v)(hFr:1≤c.Frames∧c.Frames≤1024)(hpf:∀ q,q<c.Aa.xs.length→CP c q=AQ):Calls Tryd.prog 75 #[.pointer (some ⟨bc,0,none⟩)] w fun e w'=>e = .returned (.agg (Am.arr (I4 c)))∧Ce (fun _=>False) w w':=by
 obtain⟨z,hz⟩:∃ z,z=w.heap.size:=⟨_,rfl⟩
 refine Bf (args:=[pt bc]) 6 ⟨w,z,[(Ak w)]⟩ Tryd.func75 rfl (by kernel_rfl) (by kernel_rfl) (Ed hz) ?_
 have hpl:=hc.Aa.1.len;have hpc:=hc.Bc.1.len;have hpch:=hc.Aj.1.len
 refine Di [0] [(0,pt bc)] ?_
 refine q_c 5 0 [] [[o0]] [] [(0,pt bc),(1,pt z)] ⟨w,z+1,[(Ak w),(bk z #[i6 0,i6 0,i6 0] 132)]⟩ rfl Ae ?_
 refine DZ 4 [0,1] [(Ak w),(bk z #[i6 0,i6 0,i6 0] 132)] rfl rfl ?_
 refine Ll [.tk 0 (ol 0 (Ai.arr c)),.tk 2 (oa [.via 0 (i6 (-1)),.via 0 (i6 (-1))]),.cl 1 (.bool (F9 c)),.cl 3 (.agg (Am.arr (Af (F9 c) 423 ⟨-1, -1⟩)))] [1,5] [(76,#[.agg (Ai.arr c)],.bool (F9 c)),(63,#[.bool (F9 c),i6 423,.agg #[i6 (-1),i6 (-1)]],.agg (Am.arr (Af (F9 c) 423 ⟨-1, -1⟩)))] (Dw 4 1) [GN w bc 0 (Ai.arr c),Old w 1 0 (i6 (-1)),Old w 1 1 (i6 (-1))] [(1,pt z),(5,.agg (Am.arr (Af (F9 c) 423 ⟨-1, -1⟩)))] [0,1] ⟨Em hbc,Aw (hL.1 0 _ rfl),Aw (hL.1 1 _ rfl),Ae⟩ ⟨fun w1 hw1=>kernel_calls w1 (hL.ext (hw1.ext rfl)) c (hc.ext (hw1.ext rfl) (fun _ h=>h)) hFr hpf,fun w2 hw2=>Bo w2 (hL.ext (hw2.ext rfl)) (F9 c) 423 (-1) (-1),Ae⟩ (fun n3 hn4 => ?_)
 replace hn4:z+1≤n3:=hn4
 refine Bq 4 ?_
 refine BC (an 3 1) [1] [Qb z,Qb z,Qb z] [(1,pt z)] ⟨w,n3,[(Ak w),(.blk z (.cells (Am.arr (Af (F9 c) 423 ⟨-1, -1⟩)) 132 (0,0)) true)]⟩ [] ⟨rfl,rfl,rfl,Ae⟩ (.inl rfl) ?_
 refine DX 5 [0,1] [(Ak w),(.blk z (.cells (Am.arr (Af (F9 c) 423 ⟨-1, -1⟩)) 132 (0,0)) true)] rfl rfl ?_
 refine CE ?_
 refine BI [1] [(1,pt z)] ?_
 refine Gy <| Iu <| Az [.at 1,.at 1,.at 1] [Qb z,Qb z,Qb z] (.agg #[i6 ((Af (F9 c) 423 ⟨-1, -1⟩).e),i6 ((Af (F9 c) 423 ⟨-1, -1⟩).Ag.First),i6 ((Af (F9 c) 423 ⟨-1, -1⟩).Ag.Second)]) ⟨rfl,rfl,rfl,Ae⟩ ?_
 intro w5 hw5
 exact⟨congrArg (fun t=>Ending.returned (Value.agg (Am.arr t))) (show(Af (F9 c) 423 ⟨-1, -1⟩)=I4 c from by unfold I4;first | rfl | rw[decide_eq_false (by omega)] | rw[decide_eq_true (by omega)]),AB hw5⟩
abbrev fn1(f bc:Nat):Value:= .func (.func f) #[] #[.pointer (some ⟨bc,0,none⟩)]
abbrev fn2(f bc b:Nat):Value:= .func (.func f) #[] #[.pointer (some ⟨bc,0,none⟩),.pointer (some ⟨b,0,none⟩)]
def Hf(bc:Nat):List Value:=[fn1 62 bc,fn1 65 bc,fn1 66 bc,fn1 67 bc,fn1 68 bc]
def clo(f bc:Nat)(B:List Nat):List Value:=B.map fun b=>fn2 f bc b
theorem Zh{f bc b:Nat}{B:List Nat}:clo f bc (B++[b])=clo f bc B++[.func (.func f) #[] #[.pointer (some ⟨bc,0,none⟩),.pointer (some ⟨b,0,none⟩)]]:=List.map_append
theorem KL{f bc:Nat}{B:List Nat}:(clo f bc B).length=B.length:=List.length_map _
def asks(bc:Nat)(B1 B2 B3:List Nat):List Value:=Hf bc++clo 69 bc B1++clo 71 bc B2++clo 73 bc B3++[.func (.func 75) #[] #[.pointer (some ⟨bc,0,none⟩)]]
def answers(c:Ai):List Am:=[Gi c,whole2 c,Gq c,Gm c,FC c]++(List.range c.Aa.xs.length).map (CP c)++(List.range c.Aj.xs.length).map (Dp c)++(List.range c.Bc.xs.length).map (Ea c)++[I4 c]
def Ff(c:Ai):Am:=AY (answers c)
theorem asks_len{bc:Nat}{B1 B2 B3:List Nat}:(asks bc B1 B2 B3).length=6+B1.length+B2.length+B3.length:=by
 simp[asks,Hf,clo];omega
theorem GM{c:Ai}:(answers c).length=6+c.Aa.xs.length+c.Aj.xs.length+c.Bc.xs.length:=by
 simp[answers];omega
theorem Oq{α:Type}[Inhabited α]{a b:List α}{k:Nat}(h:k<a.length):gd (a++b) k=gd a k:=by
 rw[EW (by rw[List.length_append];omega),EW h,List.getElem_append_left h]
theorem Xb{α:Type}[Inhabited α]{a b:List α}{k n:Nat}(h:n=a.length+k)(hk:k<b.length):gd (a++b) n=gd b k:=by
 subst h
 rw[EW (by rw[List.length_append];omega),EW hk,List.getElem_append_right (by omega)]
 congr 1;omega
theorem Zav{β:Type}[Inhabited β]{f:Nat→β}{n i:Nat}(h:i<n):gd ((List.range n).map f) i=f i:=by
 rw[EW (by simpa using h)];simp
theorem gd_clo{f bc b:Nat}{B:List Nat}{i:Nat}(h:B[i]? = some b):gd (clo f bc B) i=fn2 f bc b:=by
 obtain⟨hi,e⟩:=List.getElem?_eq_some_iff.1 h
 rw[EW (by rw[KL];exact hi)]
 simp[clo,e]
section
variable {c:Ai}{bc:Nat}{B1 B2 B3:List Nat}
theorem ask_lo{k:Nat}(hk:k<5):gd (asks bc B1 B2 B3) k=gd (Hf bc) k:=by
 unfold asks
 have h5:(Hf bc).length=5:=rfl
 rw[Oq (by simp only[List.length_append];omega),Oq (by simp only[List.length_append];omega),Oq (by simp only[List.length_append];omega),Oq (by omega)]
theorem VB{k:Nat}(hk:k<5):gd (answers c) k=gd [Gi c,whole2 c,Gq c,Gm c,FC c] k:=by
 unfold answers
 rw[Oq (by simp;omega),Oq (by simp;omega),Oq (by simp;omega),Oq (by simpa using hk)]
theorem Wp{p:Nat}(hp:p<c.Aa.xs.length):gd (answers c) (5+p)=CP c p:=by
 unfold answers
 rw[Oq (by simp;omega),Oq (by simp;omega),Oq (by simp;omega),Xb (k:=p) (by simp) (by simpa using hp),Zav hp]
theorem ZO{p:Nat}(hp:p<c.Aj.xs.length):gd (answers c) (5+c.Aa.xs.length+p)=Dp c p:=by
 unfold answers
 rw[Oq (by simp;omega),Oq (by simp;omega),Xb (k:=p) (by simp;omega) (by simpa using hp),Zav hp]
theorem ZG{p:Nat}(hp:p<c.Bc.xs.length):gd (answers c) (5+c.Aa.xs.length+c.Aj.xs.length+p)=Ea c p:=by
 unfold answers
 rw[Oq (by simp;omega),Xb (k:=p) (by simp;omega) (by simpa using hp),Zav hp]
theorem ZL:gd (answers c) (5+c.Aa.xs.length+c.Aj.xs.length+c.Bc.xs.length)=I4 c:=by
 unfold answers
 rw[Xb (k:=0) (by simp;omega) (by simp)];rfl
theorem kinds(h1:B1.length=c.Aa.xs.length)(h2:B2.length=c.Aj.xs.length)(h3:B3.length=c.Bc.xs.length){k:Nat}(hk:k<(asks bc B1 B2 B3).length) :
   (k=0∧gd (asks bc B1 B2 B3) k = .func (.func 62) #[] #[.pointer (some ⟨bc,0,none⟩)]∧gd (answers c) k=Gi c)∨(k=1∧gd (asks bc B1 B2 B3) k = .func (.func 65) #[] #[.pointer (some ⟨bc,0,none⟩)]∧gd (answers c) k=whole2 c)∨(k=2∧gd (asks bc B1 B2 B3) k = .func (.func 66) #[] #[.pointer (some ⟨bc,0,none⟩)]∧gd (answers c) k=Gq c) ∨
   (k=3∧gd (asks bc B1 B2 B3) k = .func (.func 67) #[] #[.pointer (some ⟨bc,0,none⟩)]∧gd (answers c) k=Gm c)∨(k=4∧gd (asks bc B1 B2 B3) k = .func (.func 68) #[] #[.pointer (some ⟨bc,0,none⟩)]∧gd (answers c) k=FC c) ∨
   (∃ p b,k=5+p∧p<c.Aa.xs.length∧B1[p]? = some b∧gd (asks bc B1 B2 B3) k = .func (.func 69) #[] #[.pointer (some ⟨bc,0,none⟩),.pointer (some ⟨b,0,none⟩)]∧gd (answers c) k=CP c p) ∨
   (∃ p b,k=5+c.Aa.xs.length+p∧p<c.Aj.xs.length∧B2[p]? = some b∧gd (asks bc B1 B2 B3) k = .func (.func 71) #[] #[.pointer (some ⟨bc,0,none⟩),.pointer (some ⟨b,0,none⟩)]∧gd (answers c) k=Dp c p) ∨
   (∃ p b,k=5+c.Aa.xs.length+c.Aj.xs.length+p∧p<c.Bc.xs.length∧B3[p]? = some b∧gd (asks bc B1 B2 B3) k = .func (.func 73) #[] #[.pointer (some ⟨bc,0,none⟩),.pointer (some ⟨b,0,none⟩)]∧gd (answers c) k=Ea c p) ∨
   (k=5+c.Aa.xs.length+c.Aj.xs.length+c.Bc.xs.length∧gd (asks bc B1 B2 B3) k = .func (.func 75) #[] #[.pointer (some ⟨bc,0,none⟩)]∧gd (answers c) k=I4 c):=by
 rw[asks_len]at hk
 have l5:(Hf bc).length=5:=rfl
 have hB:∀ (B:List Nat) (i:Nat),i<B.length→∃ b,B[i]? = some b:=fun B i hi=>⟨B[i],by simp[hi]⟩
 rcases Nat.lt_or_ge k 5 with g | g
 · rw[ask_lo g,VB g]
   rcases(by omega:k=0∨k=1∨k=2∨k=3∨k=4)with rfl | rfl | rfl | rfl | rfl
   · exact .inl ⟨rfl,rfl,rfl⟩
   · exact .inr (.inl ⟨rfl,rfl,rfl⟩)
   · exact .inr (.inr (.inl ⟨rfl,rfl,rfl⟩))
   · exact .inr (.inr (.inr (.inl ⟨rfl,rfl,rfl⟩)))
   · exact .inr (.inr (.inr (.inr (.inl ⟨rfl,rfl,rfl⟩))))
 refine .inr (.inr (.inr (.inr (.inr ?_))))
 rcases Nat.lt_or_ge k (5+c.Aa.xs.length)with g1 | g1
 · obtain⟨p,rfl⟩:∃ p,k=5+p:=⟨k - 5,by omega⟩
   obtain⟨b,hb⟩:=hB B1 p (by omega)
   refine .inl ⟨p,b,rfl,by omega,hb, ?_,Wp (by omega)⟩
   unfold asks
   rw[Oq (by simp only[List.length_append,KL];omega),Oq (by simp only[List.length_append,KL];omega),Oq (by simp only[List.length_append,KL];omega),Xb (k:=p) (by omega) (by rw[KL];omega),gd_clo hb]
 rcases Nat.lt_or_ge k (5+c.Aa.xs.length+c.Aj.xs.length)with g2 | g2
 · obtain⟨p,rfl⟩:∃ p,k=5+c.Aa.xs.length+p:=⟨k - (5+c.Aa.xs.length),by omega⟩
   obtain⟨b,hb⟩:=hB B2 p (by omega)
   refine .inr (.inl ⟨p,b,rfl,by omega,hb, ?_,ZO (by omega)⟩)
   unfold asks
   rw[Oq (by simp only[List.length_append,KL];omega),Oq (by simp only[List.length_append,KL];omega),Xb (k:=p) (by simp only[List.length_append,KL];omega) (by rw[KL];omega),gd_clo hb]
 rcases Nat.lt_or_ge k (5+c.Aa.xs.length+c.Aj.xs.length+c.Bc.xs.length)with g3 | g3
 · obtain⟨p,rfl⟩:∃ p,k=5+c.Aa.xs.length+c.Aj.xs.length+p:=⟨k - (5+c.Aa.xs.length+c.Aj.xs.length),by omega⟩
   obtain⟨b,hb⟩:=hB B3 p (by omega)
   refine .inr (.inr (.inl ⟨p,b,rfl,by omega,hb, ?_,ZG (by omega)⟩))
   unfold asks
   rw[Oq (by simp only[List.length_append,KL];omega),Xb (k:=p) (by simp only[List.length_append,KL];omega) (by rw[KL];omega),gd_clo hb]
 · obtain rfl:k=5+c.Aa.xs.length+c.Aj.xs.length+c.Bc.xs.length:=by omega
   refine .inr (.inr (.inr ⟨rfl, ?_,ZL⟩))
   unfold asks
   rw[Xb (k:=0) (by simp only[List.length_append,KL];omega) (by simp)];rfl
variable {n:Nat}(hf:∀ i,i<n→gd (answers c) i=AQ)
theorem Xa(hf:∀ i,i<n→gd (answers c) i=AQ)(hn:1≤n):1≤c.Frames∧c.Frames≤1024:=by
 have h:=hf 0 (by omega)
 rw[VB (by decide)]at h
 exact Dz ((Ho (by decide)).1 (show Af (win c.Frames 1 1024) 400 ⟨-1, -1⟩=AQ from h))
theorem parts_of(hf:∀ i,i<n→gd (answers c) i=AQ)(hn:4≤n):c.Aa.xs.length≤1024:=by
 have h:=hf 3 (by omega)
 rw[VB (by decide)]at h
 have:=Dz ((Ho (by decide)).1 (show Af (win (c.Aa.xs.length:Int) 1 8) 403 ⟨-1, -1⟩=AQ from h))
 omega
theorem Zau(hf:∀ i,i<n→gd (answers c) i=AQ){q:Nat}(hq:q<c.Aa.xs.length)(hn:5+q<n):CP c q=AQ:=by
 rw[←Wp hq];exact hf _ hn
theorem YB{c:Ai}{p:Nat}(h:CP c p=AQ):Fv (AY (H8 c p)) (JH c p) (Es c p).Ap.xs.length=AQ:=by
 unfold CP at h
 rw[if_pos (O9 (by unfold CP;exact h))]at h
 exact h
theorem ports_of(hf:∀ i,i<n→gd (answers c) i=AQ)(hn:5+c.Aa.xs.length≤n):∀ p,p<c.Aa.xs.length→(gd c.Aa.xs p).Ap.xs.length≤1024:=by
 intro p hp
 have h:=(MJ (YB (Zau hf hp (by omega)))).1
 have h2:=LQ h _ (List.mem_cons_of_mem _ (List.mem_cons_self ..))
 rw[Ho (by decide)]at h2
 have:=of_decide_eq_true h2
 simp only[Es]at this
 omega
end
end Go.Proofs.YtlccogilgegnfaaDoor.Ad
namespace Go.Proofs.YtlccogilgegnfaaDoor.Eng
open Go Go.Proofs.YtlccogilgegnfaaDoor.Mem
set_option linter.unusedSimpArgs false
set_option linter.unusedVariables false
def caps(t:TypeId)(B:List Nat):Ch:= .inv (fun b=>b∈B) (fun w=>∀ (i b:Nat),B[i]? = some b→w.heap[b]? = some (.cells #[.int .i64 (i:Nat)] t (0,0))) true
theorem YR(t:TypeId)(B:List Nat):(caps t B).stable:=fun w w' h hw i b hb=>(h b (List.mem_of_getElem? hb)).trans (hw i b hb)
theorem W9{A:AW}{w:World}(h:Sat A w){i j b:Nat}{t:TypeId}{B:List Nat}(hb:B[j]? = some b)(hi:A.σ[i]? = some (caps t B):=by rfl):∀ (k:Nat) (v:Value),[Value.int .i64 (j:Nat)][k]? = some v→w.cell? ⟨b,0+k,none⟩=some v:=by
 have h1:w.heap[b]? = some (.cells #[.int .i64 (j:Nat)] t (0,0)):=h.at hi j b hb
 intro k v hk
 match k,hk with
 | 0,hk=>cases hk;simp[World.cell?,h1]
theorem NE{A:AW}{w:World}(h:Sat A w){i b:Nat}{cs:Array Value}{t:TypeId}{fr:Nat×Nat}{rw':Bool}{l:List Value}(hi:A.σ[i]? = some (.blk b (.cells cs t fr) rw'):=by rfl)(hl:l=cs.toList:=by rfl):∀ (k:Nat) (v:Value),l[k]? = some v→w.cell? ⟨b,0+k,none⟩=some v:=by
 have h1:w.heap[b]? = some (.cells cs t fr):=h.at hi
 intro k v hk
 subst hl
 simp[World.cell?,h1]at hk ⊢
 exact hk
theorem Sat.caps{A:AW}{w:World}(h:Sat A w)(i j:Nat)(is:List Nat){t:TypeId}{B:List Nat}{b n:Nat}{kept:List Ch}(hn:B.length=n)(hi:A.σ[i]? = some (caps t B))(hj:A.σ[j]? = some (.blk b (.cells #[.int .i64 (n:Nat)] t (0,0)) true))(hnd:nodupB is=true)(hni:is.contains i=false)(hnj:is.contains j=false)(hp:picks is A.σ=some kept):Sat { A with σ:=kept++[Eng.caps t (B++[b])] } w:=by
 have:=h.exch is hnd hp (Ce.refl (fun _=>False) w) (fun _ _ _ _ x=>x) [Eng.caps t (B++[b])] (by
  intro d hd
  simp only[List.mem_singleton]at hd
  subst hd
  refine⟨fun k b' hb => ?_,YR _ _, ?_⟩
  ·rcases Nat.lt_trichotomy k B.length with hk | hk | hk
   ·rw[List.getElem?_append_left hk]at hb
    exact h.at hi k b' hb
   ·subst hk
    rw[List.getElem?_append_right (Nat.le_refl _)]at hb
    simp at hb
    subst hb;subst hn
    exact h.at hj
   rw[List.getElem?_eq_none (by simp;omega)]at hb;cases hb
  ·intro b' hb'
   rw[h.size]
   rcases List.mem_append.1 hb' with hb' | hb'
   ·exact h.bnd _ (List.mem_of_getElem? hi) b' hb'
   exact h.bnd _ (List.mem_of_getElem? hj) b' (List.mem_singleton.1 hb')) (by simp) (by
  intro d hd d' hd' _ b' hb
  simp only[List.mem_singleton]at hd'
  subst hd'
  obtain⟨q,hq,hqs⟩:=LX hp d hd
  intro hb'
  rcases List.mem_append.1 hb' with hb' | hb'
  ·exact KH h.Jq (i:=i) (j:=q) (by rw[List.getElem?_map,hi];rfl) (by rw[List.getElem?_map,hqs];rfl) (fun e=>by subst e;simp[hq]at hni) rfl b' hb' hb
  exact KH h.Jq (i:=j) (j:=q) (by rw[List.getElem?_map,hj];rfl) (by rw[List.getElem?_map,hqs];rfl) (fun e=>by subst e;simp[hq]at hnj) rfl b' (List.mem_singleton.1 hb') hb)
 rw[h.size]at this
 exact this
section
variable {P:Program}{N:Nat}{env:Env}{ds:List Deferred}{A:AW}{s:List Kt}{Q:Exit→Act→World→Prop}{c:Code}{x:Exit}
theorem ZaH(t:TypeId)(K:G P N env ds { A with σ:=A.σ++[caps t []] } c s Q):G P N env ds A c s Q :=
 fun a w hst=>K a w ⟨hst.sz,hst.df,hst.kn,hst.mem.more _ (fun i b h=>by simp at h) (YR _ _) (fun b h=>by cases h)⟩
theorem e_caps(i j:Nat)(is:List Nat)(t:TypeId)(B:List Nat)(b n:Nat)(kept:List Ch)(hn:B.length=n)(K:E P N env ds { A with σ:=kept++[caps t (B++[b])] } x s Q)
   (hi:A.σ[i]? = some (caps t B):=by rfl) (hj:A.σ[j]? = some (.blk b (.cells #[.int .i64 (n:Nat)] t (0,0)) true):=by rfl) (hnd:nodupB is=true:=by rfl) (hni:is.contains i=false:=by rfl) (hnj:is.contains j=false:=by rfl) (hp:picks is A.σ=some kept:=by rfl):E P N env ds A x s Q :=
 fun a' w hst=>K a' w ⟨hst.sz,hst.df,hst.kn,hst.mem.caps i j is hn hi hj hnd hni hnj hp⟩
end
end Go.Proofs.YtlccogilgegnfaaDoor.Eng
namespace Go.Proofs.YtlccogilgegnfaaDoor.Ad
open Go Go.Proofs.YtlccogilgegnfaaDoor.Eng Go.Proofs.YtlccogilgegnfaaDoor.Mem Go.Proofs.YtlccogilgegnfaaDoor.Ly
set_option linter.unusedSimpArgs false
set_option linter.unusedVariables false
set_option maxRecDepth 100000
section
variable (n10 z:Nat)(n17 n3:Nat)(c:Ai)(p n75:Nat)(n83 n91:Nat)(n35 n43:Nat)(n51 n59:Nat)(n67 n99:Nat)(ax19:Option Addr)(B1 B2 B3:List Nat)(cp20:Nat)(ax12:Option Addr)(cp13:Nat)(ax5:Option Addr)(cp6:Nat)(aL3:Option Addr)(cL3:Nat)(aL2:Option Addr)(cL2:Nat)(aL1:Option Addr)(cL1 b31:Nat)(cR b39:Nat)(b47 b55:Nat)(b63 b71:Nat)(b79 b87:Nat)(b95 k:Nat)
abbrev ZR:=bk (n10+1) #[.func (.func 71) #[] #[pt (z+2),pt n10]] 130
abbrev qdvx_1:=bk (n17+1) #[.func (.func 73) #[] #[pt (z+2),pt n17]] 130
abbrev Z8:=bk (n3+1) #[.func (.func 69) #[] #[pt (z+2),pt n3]] 130
abbrev qdvx_3:=bk (z+1) #[i6 ((CP c p).Ag.First),i6 ((CP c p).Ag.Second)] 108
abbrev qdvx_4:=bk (z+1) #[i6 ((Dp c p).Ag.First),i6 ((Dp c p).Ag.Second)] 108
abbrev qdvx_5:=bk (z+1) #[i6 ((Ea c p).Ag.First),i6 ((Ea c p).Ag.Second)] 108
abbrev qdvx_6:=bk (z+1) #[i6 ((Gi c).Ag.First),i6 ((Gi c).Ag.Second)] 108
abbrev qdvx_7:=bk (z+1) #[i6 ((whole2 c).Ag.First),i6 ((whole2 c).Ag.Second)] 108
abbrev qdvx_8:=bk (z+1) #[i6 ((Gq c).Ag.First),i6 ((Gq c).Ag.Second)] 108
abbrev qdvx_9:=bk (z+1) #[i6 ((Gm c).Ag.First),i6 ((Gm c).Ag.Second)] 108
abbrev qdvx_10:=bk (z+1) #[i6 ((FC c).Ag.First),i6 ((FC c).Ag.Second)] 108
abbrev qdvx_11:=bk (z+1) #[i6 ((I4 c).Ag.First),i6 ((I4 c).Ag.Second)] 108
abbrev Eu:=bk n17 #[.func (.func 75) #[] #[pt (z+2)]] 130
abbrev DY:=bk (z+1) #[i6 0,i6 0] 108
abbrev XY:=bk n75 (Am.arr (CP c p)) 132
abbrev Yq:=bk n83 (Am.arr (Dp c p)) 132
abbrev XX:=bk n91 (Am.arr (Ea c p)) 132
abbrev Ya:=bk n35 (Am.arr (Gi c)) 132
abbrev XW:=bk n43 (Am.arr (whole2 c)) 132
abbrev YF:=bk n51 (Am.arr (Gq c)) 132
abbrev XQ:=bk n59 (Am.arr (Gm c)) 132
abbrev Y4:=bk n67 (Am.arr (FC c)) 132
abbrev Y6:=bk n99 (Am.arr (I4 c)) 132
abbrev Du:=bk (z+2) (Ai.arr c) 26
abbrev Df:=bk z (Ai.arr c) 26
abbrev ZaG:=BV z 130 1 (fun v:Value=>[v]) (.slice ax19 ((Hf (z+2)++clo 69 (z+2) B1++clo 71 (z+2) B2++clo 73 (z+2) B3++[(.func (.func 73) #[] #[pt (z+2),pt n17]:Value)]).length) cp20) (Hf (z+2)++clo 69 (z+2) B1++clo 71 (z+2) B2++clo 73 (z+2) B3++[(.func (.func 73) #[] #[pt (z+2),pt n17]:Value)])
abbrev XV:=BV z 130 1 (fun v:Value=>[v]) (.slice ax12 ((Hf (z+2)++clo 69 (z+2) B1++clo 71 (z+2) B2++[(.func (.func 71) #[] #[pt (z+2),pt n10]:Value)]).length) cp13) (Hf (z+2)++clo 69 (z+2) B1++clo 71 (z+2) B2++[(.func (.func 71) #[] #[pt (z+2),pt n10]:Value)])
abbrev YI:=BV z 130 1 (fun v:Value=>[v]) (.slice ax5 ((Hf (z+2)++clo 69 (z+2) B1++[(.func (.func 69) #[] #[pt (z+2),pt n3]:Value)]).length) cp6) (Hf (z+2)++clo 69 (z+2) B1++[(.func (.func 69) #[] #[pt (z+2),pt n3]:Value)])
abbrev Ug:=BV z 130 1 (fun v:Value=>[v]) (.slice aL3 ((Hf (z+2)++clo 69 (z+2) B1++clo 71 (z+2) B2++clo 73 (z+2) B3).length) cL3) (Hf (z+2)++clo 69 (z+2) B1++clo 71 (z+2) B2++clo 73 (z+2) B3)
abbrev S9:=BV z 130 1 (fun v:Value=>[v]) (.slice aL2 ((Hf (z+2)++clo 69 (z+2) B1++clo 71 (z+2) B2).length) cL2) (Hf (z+2)++clo 69 (z+2) B1++clo 71 (z+2) B2)
abbrev PR:=BV z 130 1 (fun v:Value=>[v]) (.slice aL1 ((Hf (z+2)++clo 69 (z+2) B1).length) cL1) (Hf (z+2)++clo 69 (z+2) B1)
abbrev Ue:=BV z 130 1 (fun v:Value=>[v]) (.slice (some ⟨b31,0,none⟩) ((asks (z+2) B1 B2 B3).length) cR) (asks (z+2) B1 B2 B3)
abbrev Uc:=BV z 130 1 (fun v:Value=>[v]) (.slice (some ⟨b39,0,none⟩) ((asks (z+2) B1 B2 B3).length) cR) (asks (z+2) B1 B2 B3)
abbrev Uk:=BV z 130 1 (fun v:Value=>[v]) (.slice (some ⟨b47,0,none⟩) ((asks (z+2) B1 B2 B3).length) cR) (asks (z+2) B1 B2 B3)
abbrev TY:=BV z 130 1 (fun v:Value=>[v]) (.slice (some ⟨b55,0,none⟩) ((asks (z+2) B1 B2 B3).length) cR) (asks (z+2) B1 B2 B3)
abbrev Ub:=BV z 130 1 (fun v:Value=>[v]) (.slice (some ⟨b63,0,none⟩) ((asks (z+2) B1 B2 B3).length) cR) (asks (z+2) B1 B2 B3)
abbrev Uj:=BV z 130 1 (fun v:Value=>[v]) (.slice (some ⟨b71,0,none⟩) ((asks (z+2) B1 B2 B3).length) cR) (asks (z+2) B1 B2 B3)
abbrev TT:=BV z 130 1 (fun v:Value=>[v]) (.slice (some ⟨b79,0,none⟩) ((asks (z+2) B1 B2 B3).length) cR) (asks (z+2) B1 B2 B3)
abbrev TQ:=BV z 130 1 (fun v:Value=>[v]) (.slice (some ⟨b87,0,none⟩) ((asks (z+2) B1 B2 B3).length) cR) (asks (z+2) B1 B2 B3)
abbrev Ud:=BV z 130 1 (fun v:Value=>[v]) (.slice (some ⟨b95,0,none⟩) ((asks (z+2) B1 B2 B3).length) cR) (asks (z+2) B1 B2 B3)
abbrev Za2:D7:=(3,.slice ax19 ((Hf (z+2)++clo 69 (z+2) B1++clo 71 (z+2) B2++clo 73 (z+2) B3++[(.func (.func 73) #[] #[pt (z+2),pt n17]:Value)]).length) cp20)
abbrev YC:D7:=(3,.slice ax12 ((Hf (z+2)++clo 69 (z+2) B1++clo 71 (z+2) B2++[(.func (.func 71) #[] #[pt (z+2),pt n10]:Value)]).length) cp13)
abbrev Yl:D7:=(3,.slice ax5 ((Hf (z+2)++clo 69 (z+2) B1++[(.func (.func 69) #[] #[pt (z+2),pt n3]:Value)]).length) cp6)
abbrev VI:D7:=(8,.slice (some ⟨b31,0,none⟩) ((asks (z+2) B1 B2 B3).length) cR)
abbrev Vx:D7:=(8,.slice (some ⟨b39,0,none⟩) ((asks (z+2) B1 B2 B3).length) cR)
abbrev Vs:D7:=(8,.slice (some ⟨b47,0,none⟩) ((asks (z+2) B1 B2 B3).length) cR)
abbrev VS:D7:=(8,.slice (some ⟨b55,0,none⟩) ((asks (z+2) B1 B2 B3).length) cR)
abbrev VA:D7:=(8,.slice (some ⟨b63,0,none⟩) ((asks (z+2) B1 B2 B3).length) cR)
abbrev VF:D7:=(8,.slice (some ⟨b71,0,none⟩) ((asks (z+2) B1 B2 B3).length) cR)
abbrev VN:D7:=(8,.slice (some ⟨b79,0,none⟩) ((asks (z+2) B1 B2 B3).length) cR)
abbrev Vt:D7:=(8,.slice (some ⟨b87,0,none⟩) ((asks (z+2) B1 B2 B3).length) cR)
abbrev VE:D7:=(8,.slice (some ⟨b95,0,none⟩) ((asks (z+2) B1 B2 B3).length) cR)
abbrev Et:=(9,i6 (((asks (z+2) B1 B2 B3).length:Nat):Int))
abbrev Ns:=(15,Ac c.Aa.xs.length)
abbrev OW:=(26,Ac c.Aj.xs.length)
abbrev Q5:=(37,Ac c.Bc.xs.length)
abbrev CU:=(3,pt (z+1))
abbrev Ii:=(1,pt (z+2))
abbrev JO:=(10,i6 ((k+1:Nat):Int))
end
theorem check_calls(w:World)(hL:Js w)(c:Ai)(hc:Ai.ok Any w c)(hS:c.Aa.xs.length+c.Aj.xs.length+c.Bc.xs.length≤15000000000000):Calls Tryd.prog 29 #[.agg (Ai.arr c)] w fun e w'=>e = .returned (.tuple #[.int .i64 (Ff c).e,.agg #[.int .i64 (Ff c).Ag.First,.int .i64 (Ff c).Ag.Second]])∧Ce (fun _=>False) w w':=by
 obtain⟨z,hz⟩:∃ z,z=w.heap.size:=⟨_,rfl⟩
 refine Bf (args:=[.agg (Ai.arr c)]) 25 ⟨w,z,[(Ak w)]⟩ Tryd.func29 rfl (by kernel_rfl) (by kernel_rfl) (Ed hz) ?_
 have hpl:=hc.Aa.1.len;have hpc:=hc.Bc.1.len;have hpch:=hc.Aj.1.len
 refine Di [0] [(0,.agg (Ai.arr c))] ?_
 refine q_c 7 1 [] [[o0,o0,o0],[(an 7 1)]] [Qb z,Qb z,Qb z,Qb z,Qb z,Qb z,Qb z] [(CU z),(7,.agg (Ai.arr c))] ⟨w,z+2,[(Ak w),(Df z c),(DY z)]⟩ rfl ⟨rfl,rfl,rfl,rfl,rfl,rfl,rfl,Ae⟩ ?_
 refine l_call [] [] 43 #[.agg (Ai.arr c)] (some 8) Ae ?_
 intro w1 hw1
 refine Bf (args:=[.agg (Ai.arr c)]) 50 ⟨w,z+2,[(Ak w),(Df z c),(DY z)]⟩ Tryd.func43 rfl (by kernel_rfl) (by kernel_rfl) hw1 ?_
 refine q_c 14 0 [] [[o0,o0],[o0,o0,o0,o0,o0,o0,o0],[o0,(a1 3),o0,o0]] [Qb (z+2)] [(Ii z),(3,.slice (some ⟨z+3,0,none⟩) 5 5),(Ns c),(16,i6 0)] ⟨w,z+4,[(Ak w),(Df z c),(DY z),(Du z c),(bk (z+3) #[.func (.func 62) #[] #[pt (z+2)],.func (.func 65) #[] #[pt (z+2)],.func (.func 66) #[] #[pt (z+2)],.func (.func 67) #[] #[pt (z+2)],.func (.func 68) #[] #[pt (z+2)]] 130)]⟩ rfl ⟨rfl,Ae⟩ ?_
 refine g_blkrow 4 (z+3) z 130 1 (fun v:Value=>[v]) (Hf (z+2)) #[.func (.func 62) #[] #[pt (z+2)],.func (.func 65) #[] #[pt (z+2)],.func (.func 66) #[] #[pt (z+2)],.func (.func 67) #[] #[pt (z+2)],.func (.func 68) #[] #[pt (z+2)]] (by omega) (?_:G _ _ _ _ ⟨w,z+4,[(Ak w),(Df z c),(DY z),(Du z c),(BV z 130 1 (fun v:Value=>[v]) (.slice (some ⟨z+3,0,none⟩) 5 5) (Hf (z+2)))]⟩ _ _ _)
 refine ZaH 3 ?_
 refine D8 (fun m a w'=>∃ (n3:Nat) (p0:Nat) (B1:List Nat) (aL1:Option Addr) (cL1:Nat),m=c.Aa.xs.length - p0∧z+4≤n3∧(p0≤c.Aa.xs.length)∧(B1.length=p0)∧St 50 [(Ii z),(3,.slice aL1 ((Hf (z+2)++clo 69 (z+2) B1).length) cL1),(Ns c),(16,Ac p0)] [] ⟨w,n3,[(Ak w),(Df z c),(DY z),(Du z c),(PR z B1 aL1 cL1),(caps 3 B1)]⟩ a w') (c.Aa.xs.length - 0) ?_ ?_
 ·intro a w' hs;exact⟨(z+4),0,([]),(some ⟨z+3,0,none⟩),5,rfl,Nat.le_refl _,Nat.zero_le _,rfl,(by(try dsimp only[DY,Du,Df,PR,Ns,CU,Ii]at hs ⊢);rw[show clo 69 (z+2) []=[]from rfl,List.append_nil];exact hs)⟩
 rintro m a w' ⟨n3,p0,B1,aL1,cL1,rfl,hn2,hkp0,hB1,hs⟩
 refine(?_:G Tryd.prog 50 [(Ii z),(3,.slice aL1 ((Hf (z+2)++clo 69 (z+2) B1).length) cL1),(Ns c),(16,Ac p0)] [] ⟨w,n3,[(Ak w),(Df z c),(DY z),(Du z c),(PR z B1 aL1 cL1),(caps 3 B1)]⟩ _ _ _) a w' hs
 clear hs a w'
 have hxl1:(Hf (z+2)++clo 69 (z+2) B1).length=5+p0:=by simp only[List.length_append,KL,hB1];rfl
 refine CW ?_
 by_cases h4:(p0:Int)<(c.Aa.xs.length:Int)
 ·refine q_c 14 3 [1] [[oT],[o0,o0,(a1 6)],[o0,o0,o0]] [BT ((p0:Int)<(c.Aa.xs.length:Int)),Qb n3] [(Ii z),(Ns c),(16,Ac p0),(19,.slice aL1 ((Hf (z+2)++clo 69 (z+2) B1).length) cL1),(21,.slice (some ⟨n3+1,0,none⟩) 1 1)] ⟨w,n3+2,[(Ak w),(Df z c),(DY z),(Du z c),(PR z B1 aL1 cL1),(caps 3 B1),(bk n3 #[(Ac p0)] 3),(Z8 z n3)]⟩ rfl ⟨bt,rfl,Ae⟩ ?_
  refine Y8 z 4 7 (Hf (z+2)++clo 69 (z+2) B1) [(.func (.func 69) #[] #[pt (z+2),pt n3]:Value)] (fun v:Value=>[v]) 130 1 8 (.slice aL1 ((Hf (z+2)++clo 69 (z+2) B1).length) cL1) (n3+1) 1 1 #[.func (.func 69) #[] #[pt (z+2),pt n3]] 130 (0,0) true (some 22) (by simp only[List.length_cons,List.length_nil];omega) (by simp only[List.length_cons,List.length_nil];omega) (show z≤n3+2 by omega) (fun ax5 cp6 n7 (hn8:n3+2≤n7) => ?_)
  refine AZ 5 0 [] [[o0],[(ov (i6 ((p0+1:Nat):Int))),o0]] [Wr ((p0:Int)+1) (((p0+1:Nat):Int))] [(Ii z),(Ns c),(16,i6 ((p0+1:Nat):Int)),(Yl z n3 B1 ax5 cp6)] rfl ⟨BP,Ae⟩ ?_
  refine e_caps 5 6 [0,1,2,3,4,7] 3 B1 n3 p0 [(Ak w),(Df z c),(DY z),(Du z c),(YI z n3 B1 ax5 cp6),(Z8 z n3)] hB1 ?_
  refine Cc [0,1,2,3,4,6] [(Ak w),(Df z c),(DY z),(Du z c),(YI z n3 B1 ax5 cp6),(caps 3 (B1++[n3]))] rfl rfl ?_
  refine BI [1,3,15,16] [(Ii z),(Yl z n3 B1 ax5 cp6),(Ns c),(16,i6 ((p0+1:Nat):Int))] ?_
  refine BR (fun a w' hs=>⟨c.Aa.xs.length - (p0+1),by omega,n7,(p0+1),(B1++[n3]),ax5,cp6,rfl,by omega,by omega,(by rw[List.length_append,hB1];rfl),(by(try dsimp only[Z8,DY,Du,Df,YI,PR,Yl,Ns,Ii]at hs ⊢);rw[Zh,←List.append_assoc];exact hs)⟩)
 refine Au 16 0 [0] [[oF],[o0,(a1 3),o0,o0]] [BF ((p0:Int)<(c.Aa.xs.length:Int)),Qb (z+2)] [(Ii z),(3,.slice aL1 ((Hf (z+2)++clo 69 (z+2) B1).length) cL1),(OW c),(27,i6 0)] rfl ⟨bf,rfl,Ae⟩ ?_
 refine ZaH 3 ?_
 refine D8 (fun m a w'=>∃ (n10:Nat) (h0:Nat) (B2:List Nat) (aL2:Option Addr) (cL2:Nat),m=c.Aj.xs.length - h0∧n3≤n10∧(h0≤c.Aj.xs.length)∧(B2.length=h0)∧St 50 [(Ii z),(3,.slice aL2 ((Hf (z+2)++clo 69 (z+2) B1++clo 71 (z+2) B2).length) cL2),(OW c),(27,Ac h0)] [] ⟨w,n10,[(Ak w),(Df z c),(DY z),(Du z c),(S9 z B1 B2 aL2 cL2),(caps 3 B1),(caps 3 B2)]⟩ a w') (c.Aj.xs.length - 0) ?_ ?_
 ·intro a w' hs;exact⟨n3,0,([]),aL1,cL1,rfl,Nat.le_refl _,Nat.zero_le _,rfl,(by(try dsimp only[Z8,DY,Du,Df,YI,S9,PR,Yl,Ns,OW,Ii]at hs ⊢);rw[show clo 71 (z+2) []=[]from rfl,List.append_nil];exact hs)⟩
 rintro m a w' ⟨n10,h0,B2,aL2,cL2,rfl,hn9,hkh0,hB2,hs⟩
 refine(?_:G Tryd.prog 50 [(Ii z),(3,.slice aL2 ((Hf (z+2)++clo 69 (z+2) B1++clo 71 (z+2) B2).length) cL2),(OW c),(27,Ac h0)] [] ⟨w,n10,[(Ak w),(Df z c),(DY z),(Du z c),(S9 z B1 B2 aL2 cL2),(caps 3 B1),(caps 3 B2)]⟩ _ _ _) a w' hs
 clear hs a w'
 have hxl2:(Hf (z+2)++clo 69 (z+2) B1++clo 71 (z+2) B2).length=5+B1.length+h0:=by simp only[List.length_append,KL,hB2];rfl
 refine CW ?_
 by_cases h11:(h0:Int)<(c.Aj.xs.length:Int)
 ·refine q_c 14 3 [1] [[oT],[o0,o0,(a1 7)],[o0,o0,o0]] [BT ((h0:Int)<(c.Aj.xs.length:Int)),Qb n10] [(Ii z),(OW c),(27,Ac h0),(30,.slice aL2 ((Hf (z+2)++clo 69 (z+2) B1++clo 71 (z+2) B2).length) cL2),(32,.slice (some ⟨n10+1,0,none⟩) 1 1)] ⟨w,n10+2,[(Ak w),(Df z c),(DY z),(Du z c),(S9 z B1 B2 aL2 cL2),(caps 3 B1),(caps 3 B2),(bk n10 #[(Ac h0)] 3),(ZR n10 z)]⟩ rfl ⟨bt,rfl,Ae⟩ ?_
  refine Y8 z 4 8 (Hf (z+2)++clo 69 (z+2) B1++clo 71 (z+2) B2) [(.func (.func 71) #[] #[pt (z+2),pt n10]:Value)] (fun v:Value=>[v]) 130 1 8 (.slice aL2 ((Hf (z+2)++clo 69 (z+2) B1++clo 71 (z+2) B2).length) cL2) (n10+1) 1 1 #[.func (.func 71) #[] #[pt (z+2),pt n10]] 130 (0,0) true (some 33) (by simp only[List.length_cons,List.length_nil];omega) (by simp only[List.length_cons,List.length_nil];omega) (show z≤n10+2 by omega) (fun ax12 cp13 n14 (hn15:n10+2≤n14) => ?_)
  refine AZ 5 0 [] [[o0],[(ov (i6 ((h0+1:Nat):Int))),o0]] [Wr ((h0:Int)+1) (((h0+1:Nat):Int))] [(Ii z),(OW c),(27,i6 ((h0+1:Nat):Int)),(YC n10 z B1 B2 ax12 cp13)] rfl ⟨BP,Ae⟩ ?_
  refine e_caps 6 7 [0,1,2,3,4,5,8] 3 B2 n10 h0 [(Ak w),(Df z c),(DY z),(Du z c),(XV n10 z B1 B2 ax12 cp13),(caps 3 B1),(ZR n10 z)] hB2 ?_
  refine Cc [0,1,2,3,4,5,7] [(Ak w),(Df z c),(DY z),(Du z c),(XV n10 z B1 B2 ax12 cp13),(caps 3 B1),(caps 3 (B2++[n10]))] rfl rfl ?_
  refine BI [1,3,26,27] [(Ii z),(YC n10 z B1 B2 ax12 cp13),(OW c),(27,i6 ((h0+1:Nat):Int))] ?_
  refine BR (fun a w' hs=>⟨c.Aj.xs.length - (h0+1),by omega,n14,(h0+1),(B2++[n10]),ax12,cp13,rfl,by omega,by omega,(by rw[List.length_append,hB2];rfl),(by(try dsimp only[ZR,DY,Du,Df,XV,S9,PR,YC,Ns,OW,Ii]at hs ⊢);rw[Zh,←List.append_assoc];exact hs)⟩)
 refine Au 16 0 [0] [[oF],[o0,(a1 3),o0,o0]] [BF ((h0:Int)<(c.Aj.xs.length:Int)),Qb (z+2)] [(Ii z),(3,.slice aL2 ((Hf (z+2)++clo 69 (z+2) B1++clo 71 (z+2) B2).length) cL2),(Q5 c),(38,i6 0)] rfl ⟨bf,rfl,Ae⟩ ?_
 refine ZaH 3 ?_
 refine D8 (fun m a w'=>∃ (n17:Nat) (k0:Nat) (B3:List Nat) (aL3:Option Addr) (cL3:Nat),m=c.Bc.xs.length - k0∧n10≤n17∧(k0≤c.Bc.xs.length)∧(B3.length=k0)∧St 50 [(Ii z),(3,.slice aL3 ((Hf (z+2)++clo 69 (z+2) B1++clo 71 (z+2) B2++clo 73 (z+2) B3).length) cL3),(Q5 c),(38,Ac k0)] [] ⟨w,n17,[(Ak w),(Df z c),(DY z),(Du z c),(Ug z B1 B2 B3 aL3 cL3),(caps 3 B1),(caps 3 B2),(caps 3 B3)]⟩ a w') (c.Bc.xs.length - 0) ?_ ?_
 ·intro a w' hs;exact⟨n10,0,([]),aL2,cL2,rfl,Nat.le_refl _,Nat.zero_le _,rfl,(by(try dsimp only[ZR,DY,Du,Df,XV,Ug,S9,PR,YC,Ns,OW,Q5,Ii]at hs ⊢);rw[show clo 73 (z+2) []=[]from rfl,List.append_nil];exact hs)⟩
 rintro m a w' ⟨n17,k0,B3,aL3,cL3,rfl,hn16,hkk0,hB3,hs⟩
 refine(?_:G Tryd.prog 50 [(Ii z),(3,.slice aL3 ((Hf (z+2)++clo 69 (z+2) B1++clo 71 (z+2) B2++clo 73 (z+2) B3).length) cL3),(Q5 c),(38,Ac k0)] [] ⟨w,n17,[(Ak w),(Df z c),(DY z),(Du z c),(Ug z B1 B2 B3 aL3 cL3),(caps 3 B1),(caps 3 B2),(caps 3 B3)]⟩ _ _ _) a w' hs
 clear hs a w'
 have hxl3:(Hf (z+2)++clo 69 (z+2) B1++clo 71 (z+2) B2++clo 73 (z+2) B3).length=5+B1.length+B2.length+k0:=by simp only[List.length_append,KL,hB3];rfl
 refine CW ?_
 by_cases h18:(k0:Int)<(c.Bc.xs.length:Int)
 ·refine q_c 14 3 [1] [[oT],[o0,o0,(a1 8)],[o0,o0,o0]] [BT ((k0:Int)<(c.Bc.xs.length:Int)),Qb n17] [(Ii z),(Q5 c),(38,Ac k0),(41,.slice aL3 ((Hf (z+2)++clo 69 (z+2) B1++clo 71 (z+2) B2++clo 73 (z+2) B3).length) cL3),(43,.slice (some ⟨n17+1,0,none⟩) 1 1)] ⟨w,n17+2,[(Ak w),(Df z c),(DY z),(Du z c),(Ug z B1 B2 B3 aL3 cL3),(caps 3 B1),(caps 3 B2),(caps 3 B3),(bk n17 #[(Ac k0)] 3),(qdvx_1 z n17)]⟩ rfl ⟨bt,rfl,Ae⟩ ?_
  refine Y8 z 4 9 (Hf (z+2)++clo 69 (z+2) B1++clo 71 (z+2) B2++clo 73 (z+2) B3) [(.func (.func 73) #[] #[pt (z+2),pt n17]:Value)] (fun v:Value=>[v]) 130 1 8 (.slice aL3 ((Hf (z+2)++clo 69 (z+2) B1++clo 71 (z+2) B2++clo 73 (z+2) B3).length) cL3) (n17+1) 1 1 #[.func (.func 73) #[] #[pt (z+2),pt n17]] 130 (0,0) true (some 44) (by simp only[List.length_cons,List.length_nil];omega) (by simp only[List.length_cons,List.length_nil];omega) (show z≤n17+2 by omega) (fun ax19 cp20 n21 (hn22:n17+2≤n21) => ?_)
  refine AZ 5 0 [] [[o0],[(ov (i6 ((k0+1:Nat):Int))),o0]] [Wr ((k0:Int)+1) (((k0+1:Nat):Int))] [(Ii z),(Q5 c),(38,i6 ((k0+1:Nat):Int)),(Za2 z n17 ax19 B1 B2 B3 cp20)] rfl ⟨BP,Ae⟩ ?_
  refine e_caps 7 8 [0,1,2,3,4,5,6,9] 3 B3 n17 k0 [(Ak w),(Df z c),(DY z),(Du z c),(ZaG z n17 ax19 B1 B2 B3 cp20),(caps 3 B1),(caps 3 B2),(qdvx_1 z n17)] hB3 ?_
  refine Cc [0,1,2,3,4,5,6,8] [(Ak w),(Df z c),(DY z),(Du z c),(ZaG z n17 ax19 B1 B2 B3 cp20),(caps 3 B1),(caps 3 B2),(caps 3 (B3++[n17]))] rfl rfl ?_
  refine BI [1,3,37,38] [(Ii z),(Za2 z n17 ax19 B1 B2 B3 cp20),(Q5 c),(38,i6 ((k0+1:Nat):Int))] ?_
  refine BR (fun a w' hs=>⟨c.Bc.xs.length - (k0+1),by omega,n21,(k0+1),(B3++[n17]),ax19,cp20,rfl,by omega,by omega,(by rw[List.length_append,hB3];rfl),(by(try dsimp only[qdvx_1,DY,Du,Df,ZaG,Ug,S9,PR,Za2,Ns,OW,Q5,Ii]at hs ⊢);rw[Zh,←List.append_assoc];exact hs)⟩)
 refine q_c 12 3 [0] [[oF],[o0,o0,o0]] [BF ((k0:Int)<(c.Bc.xs.length:Int))] [(46,.slice aL3 ((Hf (z+2)++clo 69 (z+2) B1++clo 71 (z+2) B2++clo 73 (z+2) B3).length) cL3),(48,.slice (some ⟨n17,0,none⟩) 1 1)] ⟨w,n17+1,[(Ak w),(Df z c),(DY z),(Du z c),(Ug z B1 B2 B3 aL3 cL3),(caps 3 B1),(caps 3 B2),(caps 3 B3),(Eu z n17)]⟩ rfl ⟨bf,Ae⟩ ?_
 refine Y8 z 4 8 (Hf (z+2)++clo 69 (z+2) B1++clo 71 (z+2) B2++clo 73 (z+2) B3) [(.func (.func 75) #[] #[pt (z+2)]:Value)] (fun v:Value=>[v]) 130 1 8 (.slice aL3 ((Hf (z+2)++clo 69 (z+2) B1++clo 71 (z+2) B2++clo 73 (z+2) B3).length) cL3) n17 1 1 #[.func (.func 75) #[] #[pt (z+2)]] 130 (0,0) true (some 49) (by simp only[List.length_cons,List.length_nil];omega) (by simp only[List.length_cons,List.length_nil];omega) (show z≤n17+1 by omega) (fun ax23 cp24 n25 (hn26:n17+1≤n25) => ?_)
 refine AZ 3 0 [] [[o0]] [] [(2,.slice ax23 ((Hf (z+2)++clo 69 (z+2) B1++clo 71 (z+2) B2++clo 73 (z+2) B3++[(.func (.func 75) #[] #[pt (z+2)]:Value)]).length) cp24)] rfl Ae ?_
 refine Az [] [] (.slice ax23 ((Hf (z+2)++clo 69 (z+2) B1++clo 71 (z+2) B2++clo 73 (z+2) B3++[(.func (.func 75) #[] #[pt (z+2)]:Value)]).length) cp24) Ae ?_
 intro w27 hw27
 refine⟨_,_,rfl,hw27, ?_⟩
 refine AZ 3 0 [] [[o0,o0]] [] [(CU z),(8,.slice ax23 ((Hf (z+2)++clo 69 (z+2) B1++clo 71 (z+2) B2++clo 73 (z+2) B3++[(.func (.func 75) #[] #[pt (z+2)]:Value)]).length) cp24),(9,i6 (((Hf (z+2)++clo 69 (z+2) B1++clo 71 (z+2) B2++clo 73 (z+2) B3++[(.func (.func 75) #[] #[pt (z+2)]:Value)]).length:Nat):Int)),(10,i6 0)] rfl Ae ?_
 refine D8 (fun m a w'=>∃ (n29:Nat) (k:Nat) (aR:Option Addr) (cR:Nat),m=(asks (z+2) B1 B2 B3).length - k∧n25≤n29∧(k≤(asks (z+2) B1 B2 B3).length)∧(∀ i,i<k→gd (answers c) i=AQ)∧St 25 [(CU z),(8,.slice aR ((asks (z+2) B1 B2 B3).length) cR),(Et z B1 B2 B3),(10,Ac k)] [] ⟨w,n29,[(Ak w),(Df z c),(DY z),(Du z c),(BV z 130 1 (fun v:Value=>[v]) (.slice aR ((asks (z+2) B1 B2 B3).length) cR) (asks (z+2) B1 B2 B3)),(caps 3 B1),(caps 3 B2),(caps 3 B3),(Eu z n17)]⟩ a w') ((asks (z+2) B1 B2 B3).length - 0) ?_ ?_
 ·intro a w' hs;exact⟨n25,0,ax23,cp24,rfl,Nat.le_refl _,Nat.zero_le _,fun i hi=>absurd hi (Nat.not_lt_zero i),hs⟩
 rintro m a w' ⟨n29,k,aR,cR,rfl,hn28,hkk,hf,hs⟩
 refine(?_:G Tryd.prog 25 [(CU z),(8,.slice aR ((asks (z+2) B1 B2 B3).length) cR),(Et z B1 B2 B3),(10,Ac k)] [] ⟨w,n29,[(Ak w),(Df z c),(DY z),(Du z c),(BV z 130 1 (fun v:Value=>[v]) (.slice aR ((asks (z+2) B1 B2 B3).length) cR) (asks (z+2) B1 B2 B3)),(caps 3 B1),(caps 3 B2),(caps 3 B3),(Eu z n17)]⟩ _ _ _) a w' hs
 clear hs a w'
 have hB1:B1.length=c.Aa.xs.length:=by omega
 have hB2:B2.length=c.Aj.xs.length:=by omega
 have hB3:B3.length=c.Bc.xs.length:=by omega
 have htot:(asks (z+2) B1 B2 B3).length=_:=asks_len
 refine CW ?_
 by_cases h30:(k:Int)<(((asks (z+2) B1 B2 B3).length:Nat):Int)
 ·refine Au 10 0 [1] [[oT]] [BT ((k:Int)<(((asks (z+2) B1 B2 B3).length:Nat):Int))] [(CU z),(8,.slice aR ((asks (z+2) B1 B2 B3).length) cR),(Et z B1 B2 B3),(10,Ac k),(11,.bool true)] rfl ⟨bt,Ae⟩ ?_
  rcases kinds (c:=c) (bc:=z+2) hB1 hB2 hB3 (k:=k) (by omega)with⟨hk0,hv,ha⟩ | ⟨hk0,hv,ha⟩ | ⟨hk0,hv,ha⟩ | ⟨hk0,hv,ha⟩ | ⟨hk0,hv,ha⟩ | ⟨p,b,hk0,hp,hb,hv,ha⟩ | ⟨p,b,hk0,hp,hb,hv,ha⟩ | ⟨p,b,hk0,hp,hb,hv,ha⟩ | ⟨hk0,hv,ha⟩
  ·refine Nu (base:=z) (e:=130) (sz:=1) (cells:=(fun v:Value=>[v])) (a:=aR) (n:=((asks (z+2) B1 B2 B3).length)) (cap:=cR) (xs:=(asks (z+2) B1 B2 B3)) 4 (by omega) (fun b31 hg32 hb33 => ?_)
   subst hg32
   refine Au 5 1 [] [[(oi k),(oa [.via 4 (.func (.func 62) #[] #[pt (z+2)])]),o0],[o0]] [Dc k,k<(asks (z+2) B1 B2 B3).length,BM,∀ w',Ch.holds (Ue z B1 B2 B3 b31 cR) w'→w'.cell? ⟨b31,0+k,none⟩=some (.func (.func 62) #[] #[pt (z+2)])] [(CU z),(VI z B1 B2 B3 b31 cR),(Et z B1 B2 B3),(10,Ac k),(14,.func (.func 62) #[] #[pt (z+2)])] rfl ⟨rfl,(by omega),rfl,C9 (sz:=1) (j:=k) (k:=0) (fun _=>rfl) (by omega) (congrArg some hv),Ae⟩ ?_
   refine Ba 62 #[pt (z+2)] (some 15) (.agg (Am.arr (Gi c))) (fun w34 hw34=>q1_calls w34 (hL.ext (hw34.ext rfl)) c (hc.ext (hw34.ext rfl) (fun _ h=>h)) (z+2) (NE hw34 (i:=3))) (fun n35 (hn36:n29≤n35) => ?_)
   refine EI 3 0 [] [[o0,(an 3 9)]] [Qb n35,Qb n35,Qb n35] [(CU z),(VI z B1 B2 B3 b31 cR),(Et z B1 B2 B3),(10,Ac k),(6,pt n35)] ⟨w,n35+1,[(Ak w),(Df z c),(DY z),(Du z c),(Ue z B1 B2 B3 b31 cR),(caps 3 B1),(caps 3 B2),(caps 3 B3),(Eu z n17),(Ya c n35)]⟩ rfl ⟨rfl,rfl,rfl,Ae⟩ ?_
   by_cases h37:(((Gi c).e:Int)==(0:Int)&&((((Gi c).Ag.First:Int)==(0:Int)&&(((Gi c).Ag.Second:Int)==(0:Int)&&true))&&true))=true
   ·refine Au 9 0 [0] [[(an 3 9),(oa [.via 0 (i6 0),.via 0 (i6 0),.via 0 (i6 0)]),⟨.seq true,none⟩],[(ov (i6 ((k+1:Nat):Int))),o0]] [Qb n35,Qb n35,Qb n35,Old w 0 0 (i6 0),Old w 0 1 (i6 0),Old w 0 2 (i6 0),(((Gi c).e:Int)==(0:Int)&&((((Gi c).Ag.First:Int)==(0:Int)&&(((Gi c).Ag.Second:Int)==(0:Int)&&true))&&true))=true,Wr ((k:Int)+1) (((k+1:Nat):Int))] [(CU z),(VI z B1 B2 B3 b31 cR),(Et z B1 B2 B3),(JO k)] rfl ⟨rfl,rfl,rfl,Aw (hL.2 0 _ rfl),Aw (hL.2 1 _ rfl),Aw (hL.2 2 _ rfl),h37,BP,Ae⟩ ?_
    refine Cc [0,1,2,3,4,5,6,7,8] [(Ak w),(Df z c),(DY z),(Du z c),(Ue z B1 B2 B3 b31 cR),(caps 3 B1),(caps 3 B2),(caps 3 B3),(Eu z n17)] rfl rfl ?_
    refine BI [3,8,9,10] [(CU z),(VI z B1 B2 B3 b31 cR),(Et z B1 B2 B3),(JO k)] ?_
    refine BR (fun a w' hs=>⟨(asks (z+2) B1 B2 B3).length - (k+1),by omega,(n35+1),(k+1),(some ⟨b31,0,none⟩),cR,rfl,by omega,by omega,EP hf (by rw[ha];exact G9.1 h37),hs⟩)
   refine Au 5 0 [1] [[(an 3 9),(oa [.via 0 (i6 0),.via 0 (i6 0),.via 0 (i6 0)]),⟨.seq false,none⟩]] [Qb n35,Qb n35,Qb n35,Old w 0 0 (i6 0),Old w 0 1 (i6 0),Old w 0 2 (i6 0),(((Gi c).e:Int)==(0:Int)&&((((Gi c).Ag.First:Int)==(0:Int)&&(((Gi c).Ag.Second:Int)==(0:Int)&&true))&&true))=false] [(CU z),(VI z B1 B2 B3 b31 cR),(Et z B1 B2 B3),(10,Ac k),(6,pt n35),(18,.bool true)] rfl ⟨rfl,rfl,rfl,Aw (hL.2 0 _ rfl),Aw (hL.2 1 _ rfl),Aw (hL.2 2 _ rfl),(Bool.eq_false_iff.2 h37),Ae⟩ ?_
   refine DZ 5 [0,1,2,3,4,5,6,7,8,9] [(Ak w),(Df z c),(DY z),(Du z c),(Ue z B1 B2 B3 b31 cR),(caps 3 B1),(caps 3 B2),(caps 3 B3),(Eu z n17),(Ya c n35)] rfl rfl ?_
   refine Ci [(0,o0),(1,(a1 9)),(2,o0),(3,(an 2 9)),(4,o0)] [3,22,2] [Qb n35,Qb n35,Qb n35] (Dw 5 1) [(CU z),(22,.agg #[i6 ((Gi c).Ag.First),i6 ((Gi c).Ag.Second)]),(2,i6 ((Gi c).e))] ⟨rfl,rfl,rfl,Ae⟩ ?_
   refine Bq 5 ?_
   refine BC (an 2 2) [3,2] [Qb (z+1),Qb (z+1)] [(CU z),(2,i6 ((Gi c).e))] ⟨w,n35+1,[(Ak w),(Df z c),(qdvx_6 z c),(Du z c),(Ue z B1 B2 B3 b31 cR),(caps 3 B1),(caps 3 B2),(caps 3 B3),(Eu z n17),(Ya c n35)]⟩ [] ⟨rfl,rfl,Ae⟩ (.inl rfl) ?_
   refine DX 6 [0,1,2,3,4,5,6,7,8,9] [(Ak w),(Df z c),(qdvx_6 z c),(Du z c),(Ue z B1 B2 B3 b31 cR),(caps 3 B1),(caps 3 B2),(caps 3 B3),(Eu z n17),(Ya c n35)] rfl rfl ?_
   refine CE ?_
   refine BI [3,2] [(CU z),(2,i6 ((Gi c).e))] ?_
   refine Gy <| Iu <| Az [.at 2,.at 2] [Qb (z+1),Qb (z+1)] (.tuple #[i6 ((Gi c).e),.agg #[i6 ((Gi c).Ag.First),i6 ((Gi c).Ag.Second)]]) ⟨rfl,rfl,Ae⟩ ?_
   intro w38 hw38
   exact⟨congrArg (fun t:Am=>Ending.returned (.tuple #[i6 t.e,.agg #[i6 t.Ag.First,i6 t.Ag.Second]])) ((NM (xs:=answers c) (k:=k) (by rw[GM];omega) hf (by rw[ha];exact fun x=>h37 (G9.2 x))).trans ha).symm,AB hw38⟩
  ·refine Nu (base:=z) (e:=130) (sz:=1) (cells:=(fun v:Value=>[v])) (a:=aR) (n:=((asks (z+2) B1 B2 B3).length)) (cap:=cR) (xs:=(asks (z+2) B1 B2 B3)) 4 (by omega) (fun b39 hg40 hb41 => ?_)
   subst hg40
   refine Au 5 1 [] [[(oi k),(oa [.via 4 (.func (.func 65) #[] #[pt (z+2)])]),o0],[o0]] [Dc k,k<(asks (z+2) B1 B2 B3).length,BM,∀ w',Ch.holds (Uc z B1 B2 B3 cR b39) w'→w'.cell? ⟨b39,0+k,none⟩=some (.func (.func 65) #[] #[pt (z+2)])] [(CU z),(Vx z B1 B2 B3 cR b39),(Et z B1 B2 B3),(10,Ac k),(14,.func (.func 65) #[] #[pt (z+2)])] rfl ⟨rfl,(by omega),rfl,C9 (sz:=1) (j:=k) (k:=0) (fun _=>rfl) (by omega) (congrArg some hv),Ae⟩ ?_
   refine Ba 65 #[pt (z+2)] (some 15) (.agg (Am.arr (whole2 c))) (fun w42 hw42=>q2_calls w42 (hL.ext (hw42.ext rfl)) c (hc.ext (hw42.ext rfl) (fun _ h=>h)) (z+2) (NE hw42 (i:=3))) (fun n43 (hn44:n29≤n43) => ?_)
   refine EI 3 0 [] [[o0,(an 3 9)]] [Qb n43,Qb n43,Qb n43] [(CU z),(Vx z B1 B2 B3 cR b39),(Et z B1 B2 B3),(10,Ac k),(6,pt n43)] ⟨w,n43+1,[(Ak w),(Df z c),(DY z),(Du z c),(Uc z B1 B2 B3 cR b39),(caps 3 B1),(caps 3 B2),(caps 3 B3),(Eu z n17),(XW c n43)]⟩ rfl ⟨rfl,rfl,rfl,Ae⟩ ?_
   by_cases h45:(((whole2 c).e:Int)==(0:Int)&&((((whole2 c).Ag.First:Int)==(0:Int)&&(((whole2 c).Ag.Second:Int)==(0:Int)&&true))&&true))=true
   ·refine Au 9 0 [0] [[(an 3 9),(oa [.via 0 (i6 0),.via 0 (i6 0),.via 0 (i6 0)]),⟨.seq true,none⟩],[(ov (i6 ((k+1:Nat):Int))),o0]] [Qb n43,Qb n43,Qb n43,Old w 0 0 (i6 0),Old w 0 1 (i6 0),Old w 0 2 (i6 0),(((whole2 c).e:Int)==(0:Int)&&((((whole2 c).Ag.First:Int)==(0:Int)&&(((whole2 c).Ag.Second:Int)==(0:Int)&&true))&&true))=true,Wr ((k:Int)+1) (((k+1:Nat):Int))] [(CU z),(Vx z B1 B2 B3 cR b39),(Et z B1 B2 B3),(JO k)] rfl ⟨rfl,rfl,rfl,Aw (hL.2 0 _ rfl),Aw (hL.2 1 _ rfl),Aw (hL.2 2 _ rfl),h45,BP,Ae⟩ ?_
    refine Cc [0,1,2,3,4,5,6,7,8] [(Ak w),(Df z c),(DY z),(Du z c),(Uc z B1 B2 B3 cR b39),(caps 3 B1),(caps 3 B2),(caps 3 B3),(Eu z n17)] rfl rfl ?_
    refine BI [3,8,9,10] [(CU z),(Vx z B1 B2 B3 cR b39),(Et z B1 B2 B3),(JO k)] ?_
    refine BR (fun a w' hs=>⟨(asks (z+2) B1 B2 B3).length - (k+1),by omega,(n43+1),(k+1),(some ⟨b39,0,none⟩),cR,rfl,by omega,by omega,EP hf (by rw[ha];exact G9.1 h45),hs⟩)
   refine Au 5 0 [1] [[(an 3 9),(oa [.via 0 (i6 0),.via 0 (i6 0),.via 0 (i6 0)]),⟨.seq false,none⟩]] [Qb n43,Qb n43,Qb n43,Old w 0 0 (i6 0),Old w 0 1 (i6 0),Old w 0 2 (i6 0),(((whole2 c).e:Int)==(0:Int)&&((((whole2 c).Ag.First:Int)==(0:Int)&&(((whole2 c).Ag.Second:Int)==(0:Int)&&true))&&true))=false] [(CU z),(Vx z B1 B2 B3 cR b39),(Et z B1 B2 B3),(10,Ac k),(6,pt n43),(18,.bool true)] rfl ⟨rfl,rfl,rfl,Aw (hL.2 0 _ rfl),Aw (hL.2 1 _ rfl),Aw (hL.2 2 _ rfl),(Bool.eq_false_iff.2 h45),Ae⟩ ?_
   refine DZ 5 [0,1,2,3,4,5,6,7,8,9] [(Ak w),(Df z c),(DY z),(Du z c),(Uc z B1 B2 B3 cR b39),(caps 3 B1),(caps 3 B2),(caps 3 B3),(Eu z n17),(XW c n43)] rfl rfl ?_
   refine Ci [(0,o0),(1,(a1 9)),(2,o0),(3,(an 2 9)),(4,o0)] [3,22,2] [Qb n43,Qb n43,Qb n43] (Dw 5 1) [(CU z),(22,.agg #[i6 ((whole2 c).Ag.First),i6 ((whole2 c).Ag.Second)]),(2,i6 ((whole2 c).e))] ⟨rfl,rfl,rfl,Ae⟩ ?_
   refine Bq 5 ?_
   refine BC (an 2 2) [3,2] [Qb (z+1),Qb (z+1)] [(CU z),(2,i6 ((whole2 c).e))] ⟨w,n43+1,[(Ak w),(Df z c),(qdvx_7 z c),(Du z c),(Uc z B1 B2 B3 cR b39),(caps 3 B1),(caps 3 B2),(caps 3 B3),(Eu z n17),(XW c n43)]⟩ [] ⟨rfl,rfl,Ae⟩ (.inl rfl) ?_
   refine DX 6 [0,1,2,3,4,5,6,7,8,9] [(Ak w),(Df z c),(qdvx_7 z c),(Du z c),(Uc z B1 B2 B3 cR b39),(caps 3 B1),(caps 3 B2),(caps 3 B3),(Eu z n17),(XW c n43)] rfl rfl ?_
   refine CE ?_
   refine BI [3,2] [(CU z),(2,i6 ((whole2 c).e))] ?_
   refine Gy <| Iu <| Az [.at 2,.at 2] [Qb (z+1),Qb (z+1)] (.tuple #[i6 ((whole2 c).e),.agg #[i6 ((whole2 c).Ag.First),i6 ((whole2 c).Ag.Second)]]) ⟨rfl,rfl,Ae⟩ ?_
   intro w46 hw46
   exact⟨congrArg (fun t:Am=>Ending.returned (.tuple #[i6 t.e,.agg #[i6 t.Ag.First,i6 t.Ag.Second]])) ((NM (xs:=answers c) (k:=k) (by rw[GM];omega) hf (by rw[ha];exact fun x=>h45 (G9.2 x))).trans ha).symm,AB hw46⟩
  ·refine Nu (base:=z) (e:=130) (sz:=1) (cells:=(fun v:Value=>[v])) (a:=aR) (n:=((asks (z+2) B1 B2 B3).length)) (cap:=cR) (xs:=(asks (z+2) B1 B2 B3)) 4 (by omega) (fun b47 hg48 hb49 => ?_)
   subst hg48
   refine Au 5 1 [] [[(oi k),(oa [.via 4 (.func (.func 66) #[] #[pt (z+2)])]),o0],[o0]] [Dc k,k<(asks (z+2) B1 B2 B3).length,BM,∀ w',Ch.holds (Uk z B1 B2 B3 cR b47) w'→w'.cell? ⟨b47,0+k,none⟩=some (.func (.func 66) #[] #[pt (z+2)])] [(CU z),(Vs z B1 B2 B3 cR b47),(Et z B1 B2 B3),(10,Ac k),(14,.func (.func 66) #[] #[pt (z+2)])] rfl ⟨rfl,(by omega),rfl,C9 (sz:=1) (j:=k) (k:=0) (fun _=>rfl) (by omega) (congrArg some hv),Ae⟩ ?_
   refine Ba 66 #[pt (z+2)] (some 15) (.agg (Am.arr (Gq c))) (fun w50 hw50=>q3_calls w50 (hL.ext (hw50.ext rfl)) c (hc.ext (hw50.ext rfl) (fun _ h=>h)) (z+2) (NE hw50 (i:=3))) (fun n51 (hn52:n29≤n51) => ?_)
   refine EI 3 0 [] [[o0,(an 3 9)]] [Qb n51,Qb n51,Qb n51] [(CU z),(Vs z B1 B2 B3 cR b47),(Et z B1 B2 B3),(10,Ac k),(6,pt n51)] ⟨w,n51+1,[(Ak w),(Df z c),(DY z),(Du z c),(Uk z B1 B2 B3 cR b47),(caps 3 B1),(caps 3 B2),(caps 3 B3),(Eu z n17),(YF c n51)]⟩ rfl ⟨rfl,rfl,rfl,Ae⟩ ?_
   by_cases h53:(((Gq c).e:Int)==(0:Int)&&((((Gq c).Ag.First:Int)==(0:Int)&&(((Gq c).Ag.Second:Int)==(0:Int)&&true))&&true))=true
   ·refine Au 9 0 [0] [[(an 3 9),(oa [.via 0 (i6 0),.via 0 (i6 0),.via 0 (i6 0)]),⟨.seq true,none⟩],[(ov (i6 ((k+1:Nat):Int))),o0]] [Qb n51,Qb n51,Qb n51,Old w 0 0 (i6 0),Old w 0 1 (i6 0),Old w 0 2 (i6 0),(((Gq c).e:Int)==(0:Int)&&((((Gq c).Ag.First:Int)==(0:Int)&&(((Gq c).Ag.Second:Int)==(0:Int)&&true))&&true))=true,Wr ((k:Int)+1) (((k+1:Nat):Int))] [(CU z),(Vs z B1 B2 B3 cR b47),(Et z B1 B2 B3),(JO k)] rfl ⟨rfl,rfl,rfl,Aw (hL.2 0 _ rfl),Aw (hL.2 1 _ rfl),Aw (hL.2 2 _ rfl),h53,BP,Ae⟩ ?_
    refine Cc [0,1,2,3,4,5,6,7,8] [(Ak w),(Df z c),(DY z),(Du z c),(Uk z B1 B2 B3 cR b47),(caps 3 B1),(caps 3 B2),(caps 3 B3),(Eu z n17)] rfl rfl ?_
    refine BI [3,8,9,10] [(CU z),(Vs z B1 B2 B3 cR b47),(Et z B1 B2 B3),(JO k)] ?_
    refine BR (fun a w' hs=>⟨(asks (z+2) B1 B2 B3).length - (k+1),by omega,(n51+1),(k+1),(some ⟨b47,0,none⟩),cR,rfl,by omega,by omega,EP hf (by rw[ha];exact G9.1 h53),hs⟩)
   refine Au 5 0 [1] [[(an 3 9),(oa [.via 0 (i6 0),.via 0 (i6 0),.via 0 (i6 0)]),⟨.seq false,none⟩]] [Qb n51,Qb n51,Qb n51,Old w 0 0 (i6 0),Old w 0 1 (i6 0),Old w 0 2 (i6 0),(((Gq c).e:Int)==(0:Int)&&((((Gq c).Ag.First:Int)==(0:Int)&&(((Gq c).Ag.Second:Int)==(0:Int)&&true))&&true))=false] [(CU z),(Vs z B1 B2 B3 cR b47),(Et z B1 B2 B3),(10,Ac k),(6,pt n51),(18,.bool true)] rfl ⟨rfl,rfl,rfl,Aw (hL.2 0 _ rfl),Aw (hL.2 1 _ rfl),Aw (hL.2 2 _ rfl),(Bool.eq_false_iff.2 h53),Ae⟩ ?_
   refine DZ 5 [0,1,2,3,4,5,6,7,8,9] [(Ak w),(Df z c),(DY z),(Du z c),(Uk z B1 B2 B3 cR b47),(caps 3 B1),(caps 3 B2),(caps 3 B3),(Eu z n17),(YF c n51)] rfl rfl ?_
   refine Ci [(0,o0),(1,(a1 9)),(2,o0),(3,(an 2 9)),(4,o0)] [3,22,2] [Qb n51,Qb n51,Qb n51] (Dw 5 1) [(CU z),(22,.agg #[i6 ((Gq c).Ag.First),i6 ((Gq c).Ag.Second)]),(2,i6 ((Gq c).e))] ⟨rfl,rfl,rfl,Ae⟩ ?_
   refine Bq 5 ?_
   refine BC (an 2 2) [3,2] [Qb (z+1),Qb (z+1)] [(CU z),(2,i6 ((Gq c).e))] ⟨w,n51+1,[(Ak w),(Df z c),(qdvx_8 z c),(Du z c),(Uk z B1 B2 B3 cR b47),(caps 3 B1),(caps 3 B2),(caps 3 B3),(Eu z n17),(YF c n51)]⟩ [] ⟨rfl,rfl,Ae⟩ (.inl rfl) ?_
   refine DX 6 [0,1,2,3,4,5,6,7,8,9] [(Ak w),(Df z c),(qdvx_8 z c),(Du z c),(Uk z B1 B2 B3 cR b47),(caps 3 B1),(caps 3 B2),(caps 3 B3),(Eu z n17),(YF c n51)] rfl rfl ?_
   refine CE ?_
   refine BI [3,2] [(CU z),(2,i6 ((Gq c).e))] ?_
   refine Gy <| Iu <| Az [.at 2,.at 2] [Qb (z+1),Qb (z+1)] (.tuple #[i6 ((Gq c).e),.agg #[i6 ((Gq c).Ag.First),i6 ((Gq c).Ag.Second)]]) ⟨rfl,rfl,Ae⟩ ?_
   intro w54 hw54
   exact⟨congrArg (fun t:Am=>Ending.returned (.tuple #[i6 t.e,.agg #[i6 t.Ag.First,i6 t.Ag.Second]])) ((NM (xs:=answers c) (k:=k) (by rw[GM];omega) hf (by rw[ha];exact fun x=>h53 (G9.2 x))).trans ha).symm,AB hw54⟩
  ·refine Nu (base:=z) (e:=130) (sz:=1) (cells:=(fun v:Value=>[v])) (a:=aR) (n:=((asks (z+2) B1 B2 B3).length)) (cap:=cR) (xs:=(asks (z+2) B1 B2 B3)) 4 (by omega) (fun b55 hg56 hb57 => ?_)
   subst hg56
   refine Au 5 1 [] [[(oi k),(oa [.via 4 (.func (.func 67) #[] #[pt (z+2)])]),o0],[o0]] [Dc k,k<(asks (z+2) B1 B2 B3).length,BM,∀ w',Ch.holds (TY z B1 B2 B3 cR b55) w'→w'.cell? ⟨b55,0+k,none⟩=some (.func (.func 67) #[] #[pt (z+2)])] [(CU z),(VS z B1 B2 B3 cR b55),(Et z B1 B2 B3),(10,Ac k),(14,.func (.func 67) #[] #[pt (z+2)])] rfl ⟨rfl,(by omega),rfl,C9 (sz:=1) (j:=k) (k:=0) (fun _=>rfl) (by omega) (congrArg some hv),Ae⟩ ?_
   refine Ba 67 #[pt (z+2)] (some 15) (.agg (Am.arr (Gm c))) (fun w58 hw58=>q4_calls w58 (hL.ext (hw58.ext rfl)) c (hc.ext (hw58.ext rfl) (fun _ h=>h)) (z+2) (NE hw58 (i:=3))) (fun n59 (hn60:n29≤n59) => ?_)
   refine EI 3 0 [] [[o0,(an 3 9)]] [Qb n59,Qb n59,Qb n59] [(CU z),(VS z B1 B2 B3 cR b55),(Et z B1 B2 B3),(10,Ac k),(6,pt n59)] ⟨w,n59+1,[(Ak w),(Df z c),(DY z),(Du z c),(TY z B1 B2 B3 cR b55),(caps 3 B1),(caps 3 B2),(caps 3 B3),(Eu z n17),(XQ c n59)]⟩ rfl ⟨rfl,rfl,rfl,Ae⟩ ?_
   by_cases h61:(((Gm c).e:Int)==(0:Int)&&((((Gm c).Ag.First:Int)==(0:Int)&&(((Gm c).Ag.Second:Int)==(0:Int)&&true))&&true))=true
   ·refine Au 9 0 [0] [[(an 3 9),(oa [.via 0 (i6 0),.via 0 (i6 0),.via 0 (i6 0)]),⟨.seq true,none⟩],[(ov (i6 ((k+1:Nat):Int))),o0]] [Qb n59,Qb n59,Qb n59,Old w 0 0 (i6 0),Old w 0 1 (i6 0),Old w 0 2 (i6 0),(((Gm c).e:Int)==(0:Int)&&((((Gm c).Ag.First:Int)==(0:Int)&&(((Gm c).Ag.Second:Int)==(0:Int)&&true))&&true))=true,Wr ((k:Int)+1) (((k+1:Nat):Int))] [(CU z),(VS z B1 B2 B3 cR b55),(Et z B1 B2 B3),(JO k)] rfl ⟨rfl,rfl,rfl,Aw (hL.2 0 _ rfl),Aw (hL.2 1 _ rfl),Aw (hL.2 2 _ rfl),h61,BP,Ae⟩ ?_
    refine Cc [0,1,2,3,4,5,6,7,8] [(Ak w),(Df z c),(DY z),(Du z c),(TY z B1 B2 B3 cR b55),(caps 3 B1),(caps 3 B2),(caps 3 B3),(Eu z n17)] rfl rfl ?_
    refine BI [3,8,9,10] [(CU z),(VS z B1 B2 B3 cR b55),(Et z B1 B2 B3),(JO k)] ?_
    refine BR (fun a w' hs=>⟨(asks (z+2) B1 B2 B3).length - (k+1),by omega,(n59+1),(k+1),(some ⟨b55,0,none⟩),cR,rfl,by omega,by omega,EP hf (by rw[ha];exact G9.1 h61),hs⟩)
   refine Au 5 0 [1] [[(an 3 9),(oa [.via 0 (i6 0),.via 0 (i6 0),.via 0 (i6 0)]),⟨.seq false,none⟩]] [Qb n59,Qb n59,Qb n59,Old w 0 0 (i6 0),Old w 0 1 (i6 0),Old w 0 2 (i6 0),(((Gm c).e:Int)==(0:Int)&&((((Gm c).Ag.First:Int)==(0:Int)&&(((Gm c).Ag.Second:Int)==(0:Int)&&true))&&true))=false] [(CU z),(VS z B1 B2 B3 cR b55),(Et z B1 B2 B3),(10,Ac k),(6,pt n59),(18,.bool true)] rfl ⟨rfl,rfl,rfl,Aw (hL.2 0 _ rfl),Aw (hL.2 1 _ rfl),Aw (hL.2 2 _ rfl),(Bool.eq_false_iff.2 h61),Ae⟩ ?_
   refine DZ 5 [0,1,2,3,4,5,6,7,8,9] [(Ak w),(Df z c),(DY z),(Du z c),(TY z B1 B2 B3 cR b55),(caps 3 B1),(caps 3 B2),(caps 3 B3),(Eu z n17),(XQ c n59)] rfl rfl ?_
   refine Ci [(0,o0),(1,(a1 9)),(2,o0),(3,(an 2 9)),(4,o0)] [3,22,2] [Qb n59,Qb n59,Qb n59] (Dw 5 1) [(CU z),(22,.agg #[i6 ((Gm c).Ag.First),i6 ((Gm c).Ag.Second)]),(2,i6 ((Gm c).e))] ⟨rfl,rfl,rfl,Ae⟩ ?_
   refine Bq 5 ?_
   refine BC (an 2 2) [3,2] [Qb (z+1),Qb (z+1)] [(CU z),(2,i6 ((Gm c).e))] ⟨w,n59+1,[(Ak w),(Df z c),(qdvx_9 z c),(Du z c),(TY z B1 B2 B3 cR b55),(caps 3 B1),(caps 3 B2),(caps 3 B3),(Eu z n17),(XQ c n59)]⟩ [] ⟨rfl,rfl,Ae⟩ (.inl rfl) ?_
   refine DX 6 [0,1,2,3,4,5,6,7,8,9] [(Ak w),(Df z c),(qdvx_9 z c),(Du z c),(TY z B1 B2 B3 cR b55),(caps 3 B1),(caps 3 B2),(caps 3 B3),(Eu z n17),(XQ c n59)] rfl rfl ?_
   refine CE ?_
   refine BI [3,2] [(CU z),(2,i6 ((Gm c).e))] ?_
   refine Gy <| Iu <| Az [.at 2,.at 2] [Qb (z+1),Qb (z+1)] (.tuple #[i6 ((Gm c).e),.agg #[i6 ((Gm c).Ag.First),i6 ((Gm c).Ag.Second)]]) ⟨rfl,rfl,Ae⟩ ?_
   intro w62 hw62
   exact⟨congrArg (fun t:Am=>Ending.returned (.tuple #[i6 t.e,.agg #[i6 t.Ag.First,i6 t.Ag.Second]])) ((NM (xs:=answers c) (k:=k) (by rw[GM];omega) hf (by rw[ha];exact fun x=>h61 (G9.2 x))).trans ha).symm,AB hw62⟩
  ·refine Nu (base:=z) (e:=130) (sz:=1) (cells:=(fun v:Value=>[v])) (a:=aR) (n:=((asks (z+2) B1 B2 B3).length)) (cap:=cR) (xs:=(asks (z+2) B1 B2 B3)) 4 (by omega) (fun b63 hg64 hb65 => ?_)
   subst hg64
   refine Au 5 1 [] [[(oi k),(oa [.via 4 (.func (.func 68) #[] #[pt (z+2)])]),o0],[o0]] [Dc k,k<(asks (z+2) B1 B2 B3).length,BM,∀ w',Ch.holds (Ub z B1 B2 B3 cR b63) w'→w'.cell? ⟨b63,0+k,none⟩=some (.func (.func 68) #[] #[pt (z+2)])] [(CU z),(VA z B1 B2 B3 cR b63),(Et z B1 B2 B3),(10,Ac k),(14,.func (.func 68) #[] #[pt (z+2)])] rfl ⟨rfl,(by omega),rfl,C9 (sz:=1) (j:=k) (k:=0) (fun _=>rfl) (by omega) (congrArg some hv),Ae⟩ ?_
   refine Ba 68 #[pt (z+2)] (some 15) (.agg (Am.arr (FC c))) (fun w66 hw66=>q5_calls w66 (hL.ext (hw66.ext rfl)) c (hc.ext (hw66.ext rfl) (fun _ h=>h)) (z+2) (NE hw66 (i:=3))) (fun n67 (hn68:n29≤n67) => ?_)
   refine EI 3 0 [] [[o0,(an 3 9)]] [Qb n67,Qb n67,Qb n67] [(CU z),(VA z B1 B2 B3 cR b63),(Et z B1 B2 B3),(10,Ac k),(6,pt n67)] ⟨w,n67+1,[(Ak w),(Df z c),(DY z),(Du z c),(Ub z B1 B2 B3 cR b63),(caps 3 B1),(caps 3 B2),(caps 3 B3),(Eu z n17),(Y4 c n67)]⟩ rfl ⟨rfl,rfl,rfl,Ae⟩ ?_
   by_cases h69:(((FC c).e:Int)==(0:Int)&&((((FC c).Ag.First:Int)==(0:Int)&&(((FC c).Ag.Second:Int)==(0:Int)&&true))&&true))=true
   ·refine Au 9 0 [0] [[(an 3 9),(oa [.via 0 (i6 0),.via 0 (i6 0),.via 0 (i6 0)]),⟨.seq true,none⟩],[(ov (i6 ((k+1:Nat):Int))),o0]] [Qb n67,Qb n67,Qb n67,Old w 0 0 (i6 0),Old w 0 1 (i6 0),Old w 0 2 (i6 0),(((FC c).e:Int)==(0:Int)&&((((FC c).Ag.First:Int)==(0:Int)&&(((FC c).Ag.Second:Int)==(0:Int)&&true))&&true))=true,Wr ((k:Int)+1) (((k+1:Nat):Int))] [(CU z),(VA z B1 B2 B3 cR b63),(Et z B1 B2 B3),(JO k)] rfl ⟨rfl,rfl,rfl,Aw (hL.2 0 _ rfl),Aw (hL.2 1 _ rfl),Aw (hL.2 2 _ rfl),h69,BP,Ae⟩ ?_
    refine Cc [0,1,2,3,4,5,6,7,8] [(Ak w),(Df z c),(DY z),(Du z c),(Ub z B1 B2 B3 cR b63),(caps 3 B1),(caps 3 B2),(caps 3 B3),(Eu z n17)] rfl rfl ?_
    refine BI [3,8,9,10] [(CU z),(VA z B1 B2 B3 cR b63),(Et z B1 B2 B3),(JO k)] ?_
    refine BR (fun a w' hs=>⟨(asks (z+2) B1 B2 B3).length - (k+1),by omega,(n67+1),(k+1),(some ⟨b63,0,none⟩),cR,rfl,by omega,by omega,EP hf (by rw[ha];exact G9.1 h69),hs⟩)
   refine Au 5 0 [1] [[(an 3 9),(oa [.via 0 (i6 0),.via 0 (i6 0),.via 0 (i6 0)]),⟨.seq false,none⟩]] [Qb n67,Qb n67,Qb n67,Old w 0 0 (i6 0),Old w 0 1 (i6 0),Old w 0 2 (i6 0),(((FC c).e:Int)==(0:Int)&&((((FC c).Ag.First:Int)==(0:Int)&&(((FC c).Ag.Second:Int)==(0:Int)&&true))&&true))=false] [(CU z),(VA z B1 B2 B3 cR b63),(Et z B1 B2 B3),(10,Ac k),(6,pt n67),(18,.bool true)] rfl ⟨rfl,rfl,rfl,Aw (hL.2 0 _ rfl),Aw (hL.2 1 _ rfl),Aw (hL.2 2 _ rfl),(Bool.eq_false_iff.2 h69),Ae⟩ ?_
   refine DZ 5 [0,1,2,3,4,5,6,7,8,9] [(Ak w),(Df z c),(DY z),(Du z c),(Ub z B1 B2 B3 cR b63),(caps 3 B1),(caps 3 B2),(caps 3 B3),(Eu z n17),(Y4 c n67)] rfl rfl ?_
   refine Ci [(0,o0),(1,(a1 9)),(2,o0),(3,(an 2 9)),(4,o0)] [3,22,2] [Qb n67,Qb n67,Qb n67] (Dw 5 1) [(CU z),(22,.agg #[i6 ((FC c).Ag.First),i6 ((FC c).Ag.Second)]),(2,i6 ((FC c).e))] ⟨rfl,rfl,rfl,Ae⟩ ?_
   refine Bq 5 ?_
   refine BC (an 2 2) [3,2] [Qb (z+1),Qb (z+1)] [(CU z),(2,i6 ((FC c).e))] ⟨w,n67+1,[(Ak w),(Df z c),(qdvx_10 z c),(Du z c),(Ub z B1 B2 B3 cR b63),(caps 3 B1),(caps 3 B2),(caps 3 B3),(Eu z n17),(Y4 c n67)]⟩ [] ⟨rfl,rfl,Ae⟩ (.inl rfl) ?_
   refine DX 6 [0,1,2,3,4,5,6,7,8,9] [(Ak w),(Df z c),(qdvx_10 z c),(Du z c),(Ub z B1 B2 B3 cR b63),(caps 3 B1),(caps 3 B2),(caps 3 B3),(Eu z n17),(Y4 c n67)] rfl rfl ?_
   refine CE ?_
   refine BI [3,2] [(CU z),(2,i6 ((FC c).e))] ?_
   refine Gy <| Iu <| Az [.at 2,.at 2] [Qb (z+1),Qb (z+1)] (.tuple #[i6 ((FC c).e),.agg #[i6 ((FC c).Ag.First),i6 ((FC c).Ag.Second)]]) ⟨rfl,rfl,Ae⟩ ?_
   intro w70 hw70
   exact⟨congrArg (fun t:Am=>Ending.returned (.tuple #[i6 t.e,.agg #[i6 t.Ag.First,i6 t.Ag.Second]])) ((NM (xs:=answers c) (k:=k) (by rw[GM];omega) hf (by rw[ha];exact fun x=>h69 (G9.2 x))).trans ha).symm,AB hw70⟩
  ·have hFr:=Xa hf (by omega)
   have hpf:∀ q,q<p→CP c q=AQ:=fun q hq=>Zau hf (by omega) (by omega)
   refine Nu (base:=z) (e:=130) (sz:=1) (cells:=(fun v:Value=>[v])) (a:=aR) (n:=((asks (z+2) B1 B2 B3).length)) (cap:=cR) (xs:=(asks (z+2) B1 B2 B3)) 4 (by omega) (fun b71 hg72 hb73 => ?_)
   subst hg72
   refine Au 5 1 [] [[(oi k),(oa [.via 4 (.func (.func 69) #[] #[pt (z+2),pt b])]),o0],[o0]] [Dc k,k<(asks (z+2) B1 B2 B3).length,BM,∀ w',Ch.holds (Uj z B1 B2 B3 cR b71) w'→w'.cell? ⟨b71,0+k,none⟩=some (.func (.func 69) #[] #[pt (z+2),pt b])] [(CU z),(VF z B1 B2 B3 cR b71),(Et z B1 B2 B3),(10,Ac k),(14,.func (.func 69) #[] #[pt (z+2),pt b])] rfl ⟨rfl,(by omega),rfl,C9 (sz:=1) (j:=k) (k:=0) (fun _=>rfl) (by omega) (congrArg some hv),Ae⟩ ?_
   refine Ba 69 #[pt (z+2),pt b] (some 15) (.agg (Am.arr (CP c p))) (fun w74 hw74=>q6_calls w74 (hL.ext (hw74.ext rfl)) c (hc.ext (hw74.ext rfl) (fun _ h=>h)) (z+2) (NE hw74 (i:=3)) b p (W9 hw74 hb (i:=5)) hp hFr hpf) (fun n75 (hn76:n29≤n75) => ?_)
   refine EI 3 0 [] [[o0,(an 3 9)]] [Qb n75,Qb n75,Qb n75] [(CU z),(VF z B1 B2 B3 cR b71),(Et z B1 B2 B3),(10,Ac k),(6,pt n75)] ⟨w,n75+1,[(Ak w),(Df z c),(DY z),(Du z c),(Uj z B1 B2 B3 cR b71),(caps 3 B1),(caps 3 B2),(caps 3 B3),(Eu z n17),(XY c p n75)]⟩ rfl ⟨rfl,rfl,rfl,Ae⟩ ?_
   by_cases h77:(((CP c p).e:Int)==(0:Int)&&((((CP c p).Ag.First:Int)==(0:Int)&&(((CP c p).Ag.Second:Int)==(0:Int)&&true))&&true))=true
   ·refine Au 9 0 [0] [[(an 3 9),(oa [.via 0 (i6 0),.via 0 (i6 0),.via 0 (i6 0)]),⟨.seq true,none⟩],[(ov (i6 ((k+1:Nat):Int))),o0]] [Qb n75,Qb n75,Qb n75,Old w 0 0 (i6 0),Old w 0 1 (i6 0),Old w 0 2 (i6 0),(((CP c p).e:Int)==(0:Int)&&((((CP c p).Ag.First:Int)==(0:Int)&&(((CP c p).Ag.Second:Int)==(0:Int)&&true))&&true))=true,Wr ((k:Int)+1) (((k+1:Nat):Int))] [(CU z),(VF z B1 B2 B3 cR b71),(Et z B1 B2 B3),(JO k)] rfl ⟨rfl,rfl,rfl,Aw (hL.2 0 _ rfl),Aw (hL.2 1 _ rfl),Aw (hL.2 2 _ rfl),h77,BP,Ae⟩ ?_
    refine Cc [0,1,2,3,4,5,6,7,8] [(Ak w),(Df z c),(DY z),(Du z c),(Uj z B1 B2 B3 cR b71),(caps 3 B1),(caps 3 B2),(caps 3 B3),(Eu z n17)] rfl rfl ?_
    refine BI [3,8,9,10] [(CU z),(VF z B1 B2 B3 cR b71),(Et z B1 B2 B3),(JO k)] ?_
    refine BR (fun a w' hs=>⟨(asks (z+2) B1 B2 B3).length - (k+1),by omega,(n75+1),(k+1),(some ⟨b71,0,none⟩),cR,rfl,by omega,by omega,EP hf (by rw[ha];exact G9.1 h77),hs⟩)
   refine Au 5 0 [1] [[(an 3 9),(oa [.via 0 (i6 0),.via 0 (i6 0),.via 0 (i6 0)]),⟨.seq false,none⟩]] [Qb n75,Qb n75,Qb n75,Old w 0 0 (i6 0),Old w 0 1 (i6 0),Old w 0 2 (i6 0),(((CP c p).e:Int)==(0:Int)&&((((CP c p).Ag.First:Int)==(0:Int)&&(((CP c p).Ag.Second:Int)==(0:Int)&&true))&&true))=false] [(CU z),(VF z B1 B2 B3 cR b71),(Et z B1 B2 B3),(10,Ac k),(6,pt n75),(18,.bool true)] rfl ⟨rfl,rfl,rfl,Aw (hL.2 0 _ rfl),Aw (hL.2 1 _ rfl),Aw (hL.2 2 _ rfl),(Bool.eq_false_iff.2 h77),Ae⟩ ?_
   refine DZ 5 [0,1,2,3,4,5,6,7,8,9] [(Ak w),(Df z c),(DY z),(Du z c),(Uj z B1 B2 B3 cR b71),(caps 3 B1),(caps 3 B2),(caps 3 B3),(Eu z n17),(XY c p n75)] rfl rfl ?_
   refine Ci [(0,o0),(1,(a1 9)),(2,o0),(3,(an 2 9)),(4,o0)] [3,22,2] [Qb n75,Qb n75,Qb n75] (Dw 5 1) [(CU z),(22,.agg #[i6 ((CP c p).Ag.First),i6 ((CP c p).Ag.Second)]),(2,i6 ((CP c p).e))] ⟨rfl,rfl,rfl,Ae⟩ ?_
   refine Bq 5 ?_
   refine BC (an 2 2) [3,2] [Qb (z+1),Qb (z+1)] [(CU z),(2,i6 ((CP c p).e))] ⟨w,n75+1,[(Ak w),(Df z c),(qdvx_3 z c p),(Du z c),(Uj z B1 B2 B3 cR b71),(caps 3 B1),(caps 3 B2),(caps 3 B3),(Eu z n17),(XY c p n75)]⟩ [] ⟨rfl,rfl,Ae⟩ (.inl rfl) ?_
   refine DX 6 [0,1,2,3,4,5,6,7,8,9] [(Ak w),(Df z c),(qdvx_3 z c p),(Du z c),(Uj z B1 B2 B3 cR b71),(caps 3 B1),(caps 3 B2),(caps 3 B3),(Eu z n17),(XY c p n75)] rfl rfl ?_
   refine CE ?_
   refine BI [3,2] [(CU z),(2,i6 ((CP c p).e))] ?_
   refine Gy <| Iu <| Az [.at 2,.at 2] [Qb (z+1),Qb (z+1)] (.tuple #[i6 ((CP c p).e),.agg #[i6 ((CP c p).Ag.First),i6 ((CP c p).Ag.Second)]]) ⟨rfl,rfl,Ae⟩ ?_
   intro w78 hw78
   exact⟨congrArg (fun t:Am=>Ending.returned (.tuple #[i6 t.e,.agg #[i6 t.Ag.First,i6 t.Ag.Second]])) ((NM (xs:=answers c) (k:=k) (by rw[GM];omega) hf (by rw[ha];exact fun x=>h77 (G9.2 x))).trans ha).symm,AB hw78⟩
  ·have hm:=parts_of hf (by omega);have hq:=ports_of hf (by omega)
   refine Nu (base:=z) (e:=130) (sz:=1) (cells:=(fun v:Value=>[v])) (a:=aR) (n:=((asks (z+2) B1 B2 B3).length)) (cap:=cR) (xs:=(asks (z+2) B1 B2 B3)) 4 (by omega) (fun b79 hg80 hb81 => ?_)
   subst hg80
   refine Au 5 1 [] [[(oi k),(oa [.via 4 (.func (.func 71) #[] #[pt (z+2),pt b])]),o0],[o0]] [Dc k,k<(asks (z+2) B1 B2 B3).length,BM,∀ w',Ch.holds (TT z B1 B2 B3 cR b79) w'→w'.cell? ⟨b79,0+k,none⟩=some (.func (.func 71) #[] #[pt (z+2),pt b])] [(CU z),(VN z B1 B2 B3 cR b79),(Et z B1 B2 B3),(10,Ac k),(14,.func (.func 71) #[] #[pt (z+2),pt b])] rfl ⟨rfl,(by omega),rfl,C9 (sz:=1) (j:=k) (k:=0) (fun _=>rfl) (by omega) (congrArg some hv),Ae⟩ ?_
   refine Ba 71 #[pt (z+2),pt b] (some 15) (.agg (Am.arr (Dp c p))) (fun w82 hw82=>q7_calls w82 (hL.ext (hw82.ext rfl)) c (hc.ext (hw82.ext rfl) (fun _ h=>h)) (z+2) (NE hw82 (i:=3)) b p (W9 hw82 hb (i:=6)) hp hm hq) (fun n83 (hn84:n29≤n83) => ?_)
   refine EI 3 0 [] [[o0,(an 3 9)]] [Qb n83,Qb n83,Qb n83] [(CU z),(VN z B1 B2 B3 cR b79),(Et z B1 B2 B3),(10,Ac k),(6,pt n83)] ⟨w,n83+1,[(Ak w),(Df z c),(DY z),(Du z c),(TT z B1 B2 B3 cR b79),(caps 3 B1),(caps 3 B2),(caps 3 B3),(Eu z n17),(Yq c p n83)]⟩ rfl ⟨rfl,rfl,rfl,Ae⟩ ?_
   by_cases h85:(((Dp c p).e:Int)==(0:Int)&&((((Dp c p).Ag.First:Int)==(0:Int)&&(((Dp c p).Ag.Second:Int)==(0:Int)&&true))&&true))=true
   ·refine Au 9 0 [0] [[(an 3 9),(oa [.via 0 (i6 0),.via 0 (i6 0),.via 0 (i6 0)]),⟨.seq true,none⟩],[(ov (i6 ((k+1:Nat):Int))),o0]] [Qb n83,Qb n83,Qb n83,Old w 0 0 (i6 0),Old w 0 1 (i6 0),Old w 0 2 (i6 0),(((Dp c p).e:Int)==(0:Int)&&((((Dp c p).Ag.First:Int)==(0:Int)&&(((Dp c p).Ag.Second:Int)==(0:Int)&&true))&&true))=true,Wr ((k:Int)+1) (((k+1:Nat):Int))] [(CU z),(VN z B1 B2 B3 cR b79),(Et z B1 B2 B3),(JO k)] rfl ⟨rfl,rfl,rfl,Aw (hL.2 0 _ rfl),Aw (hL.2 1 _ rfl),Aw (hL.2 2 _ rfl),h85,BP,Ae⟩ ?_
    refine Cc [0,1,2,3,4,5,6,7,8] [(Ak w),(Df z c),(DY z),(Du z c),(TT z B1 B2 B3 cR b79),(caps 3 B1),(caps 3 B2),(caps 3 B3),(Eu z n17)] rfl rfl ?_
    refine BI [3,8,9,10] [(CU z),(VN z B1 B2 B3 cR b79),(Et z B1 B2 B3),(JO k)] ?_
    refine BR (fun a w' hs=>⟨(asks (z+2) B1 B2 B3).length - (k+1),by omega,(n83+1),(k+1),(some ⟨b79,0,none⟩),cR,rfl,by omega,by omega,EP hf (by rw[ha];exact G9.1 h85),hs⟩)
   refine Au 5 0 [1] [[(an 3 9),(oa [.via 0 (i6 0),.via 0 (i6 0),.via 0 (i6 0)]),⟨.seq false,none⟩]] [Qb n83,Qb n83,Qb n83,Old w 0 0 (i6 0),Old w 0 1 (i6 0),Old w 0 2 (i6 0),(((Dp c p).e:Int)==(0:Int)&&((((Dp c p).Ag.First:Int)==(0:Int)&&(((Dp c p).Ag.Second:Int)==(0:Int)&&true))&&true))=false] [(CU z),(VN z B1 B2 B3 cR b79),(Et z B1 B2 B3),(10,Ac k),(6,pt n83),(18,.bool true)] rfl ⟨rfl,rfl,rfl,Aw (hL.2 0 _ rfl),Aw (hL.2 1 _ rfl),Aw (hL.2 2 _ rfl),(Bool.eq_false_iff.2 h85),Ae⟩ ?_
   refine DZ 5 [0,1,2,3,4,5,6,7,8,9] [(Ak w),(Df z c),(DY z),(Du z c),(TT z B1 B2 B3 cR b79),(caps 3 B1),(caps 3 B2),(caps 3 B3),(Eu z n17),(Yq c p n83)] rfl rfl ?_
   refine Ci [(0,o0),(1,(a1 9)),(2,o0),(3,(an 2 9)),(4,o0)] [3,22,2] [Qb n83,Qb n83,Qb n83] (Dw 5 1) [(CU z),(22,.agg #[i6 ((Dp c p).Ag.First),i6 ((Dp c p).Ag.Second)]),(2,i6 ((Dp c p).e))] ⟨rfl,rfl,rfl,Ae⟩ ?_
   refine Bq 5 ?_
   refine BC (an 2 2) [3,2] [Qb (z+1),Qb (z+1)] [(CU z),(2,i6 ((Dp c p).e))] ⟨w,n83+1,[(Ak w),(Df z c),(qdvx_4 z c p),(Du z c),(TT z B1 B2 B3 cR b79),(caps 3 B1),(caps 3 B2),(caps 3 B3),(Eu z n17),(Yq c p n83)]⟩ [] ⟨rfl,rfl,Ae⟩ (.inl rfl) ?_
   refine DX 6 [0,1,2,3,4,5,6,7,8,9] [(Ak w),(Df z c),(qdvx_4 z c p),(Du z c),(TT z B1 B2 B3 cR b79),(caps 3 B1),(caps 3 B2),(caps 3 B3),(Eu z n17),(Yq c p n83)] rfl rfl ?_
   refine CE ?_
   refine BI [3,2] [(CU z),(2,i6 ((Dp c p).e))] ?_
   refine Gy <| Iu <| Az [.at 2,.at 2] [Qb (z+1),Qb (z+1)] (.tuple #[i6 ((Dp c p).e),.agg #[i6 ((Dp c p).Ag.First),i6 ((Dp c p).Ag.Second)]]) ⟨rfl,rfl,Ae⟩ ?_
   intro w86 hw86
   exact⟨congrArg (fun t:Am=>Ending.returned (.tuple #[i6 t.e,.agg #[i6 t.Ag.First,i6 t.Ag.Second]])) ((NM (xs:=answers c) (k:=k) (by rw[GM];omega) hf (by rw[ha];exact fun x=>h85 (G9.2 x))).trans ha).symm,AB hw86⟩
  ·refine Nu (base:=z) (e:=130) (sz:=1) (cells:=(fun v:Value=>[v])) (a:=aR) (n:=((asks (z+2) B1 B2 B3).length)) (cap:=cR) (xs:=(asks (z+2) B1 B2 B3)) 4 (by omega) (fun b87 hg88 hb89 => ?_)
   subst hg88
   refine Au 5 1 [] [[(oi k),(oa [.via 4 (.func (.func 73) #[] #[pt (z+2),pt b])]),o0],[o0]] [Dc k,k<(asks (z+2) B1 B2 B3).length,BM,∀ w',Ch.holds (TQ z B1 B2 B3 cR b87) w'→w'.cell? ⟨b87,0+k,none⟩=some (.func (.func 73) #[] #[pt (z+2),pt b])] [(CU z),(Vt z B1 B2 B3 cR b87),(Et z B1 B2 B3),(10,Ac k),(14,.func (.func 73) #[] #[pt (z+2),pt b])] rfl ⟨rfl,(by omega),rfl,C9 (sz:=1) (j:=k) (k:=0) (fun _=>rfl) (by omega) (congrArg some hv),Ae⟩ ?_
   refine Ba 73 #[pt (z+2),pt b] (some 15) (.agg (Am.arr (Ea c p))) (fun w90 hw90=>q8_calls w90 (hL.ext (hw90.ext rfl)) c (hc.ext (hw90.ext rfl) (fun _ h=>h)) (z+2) (NE hw90 (i:=3)) b p (W9 hw90 hb (i:=7)) hp) (fun n91 (hn92:n29≤n91) => ?_)
   refine EI 3 0 [] [[o0,(an 3 9)]] [Qb n91,Qb n91,Qb n91] [(CU z),(Vt z B1 B2 B3 cR b87),(Et z B1 B2 B3),(10,Ac k),(6,pt n91)] ⟨w,n91+1,[(Ak w),(Df z c),(DY z),(Du z c),(TQ z B1 B2 B3 cR b87),(caps 3 B1),(caps 3 B2),(caps 3 B3),(Eu z n17),(XX c p n91)]⟩ rfl ⟨rfl,rfl,rfl,Ae⟩ ?_
   by_cases h93:(((Ea c p).e:Int)==(0:Int)&&((((Ea c p).Ag.First:Int)==(0:Int)&&(((Ea c p).Ag.Second:Int)==(0:Int)&&true))&&true))=true
   ·refine Au 9 0 [0] [[(an 3 9),(oa [.via 0 (i6 0),.via 0 (i6 0),.via 0 (i6 0)]),⟨.seq true,none⟩],[(ov (i6 ((k+1:Nat):Int))),o0]] [Qb n91,Qb n91,Qb n91,Old w 0 0 (i6 0),Old w 0 1 (i6 0),Old w 0 2 (i6 0),(((Ea c p).e:Int)==(0:Int)&&((((Ea c p).Ag.First:Int)==(0:Int)&&(((Ea c p).Ag.Second:Int)==(0:Int)&&true))&&true))=true,Wr ((k:Int)+1) (((k+1:Nat):Int))] [(CU z),(Vt z B1 B2 B3 cR b87),(Et z B1 B2 B3),(JO k)] rfl ⟨rfl,rfl,rfl,Aw (hL.2 0 _ rfl),Aw (hL.2 1 _ rfl),Aw (hL.2 2 _ rfl),h93,BP,Ae⟩ ?_
    refine Cc [0,1,2,3,4,5,6,7,8] [(Ak w),(Df z c),(DY z),(Du z c),(TQ z B1 B2 B3 cR b87),(caps 3 B1),(caps 3 B2),(caps 3 B3),(Eu z n17)] rfl rfl ?_
    refine BI [3,8,9,10] [(CU z),(Vt z B1 B2 B3 cR b87),(Et z B1 B2 B3),(JO k)] ?_
    refine BR (fun a w' hs=>⟨(asks (z+2) B1 B2 B3).length - (k+1),by omega,(n91+1),(k+1),(some ⟨b87,0,none⟩),cR,rfl,by omega,by omega,EP hf (by rw[ha];exact G9.1 h93),hs⟩)
   refine Au 5 0 [1] [[(an 3 9),(oa [.via 0 (i6 0),.via 0 (i6 0),.via 0 (i6 0)]),⟨.seq false,none⟩]] [Qb n91,Qb n91,Qb n91,Old w 0 0 (i6 0),Old w 0 1 (i6 0),Old w 0 2 (i6 0),(((Ea c p).e:Int)==(0:Int)&&((((Ea c p).Ag.First:Int)==(0:Int)&&(((Ea c p).Ag.Second:Int)==(0:Int)&&true))&&true))=false] [(CU z),(Vt z B1 B2 B3 cR b87),(Et z B1 B2 B3),(10,Ac k),(6,pt n91),(18,.bool true)] rfl ⟨rfl,rfl,rfl,Aw (hL.2 0 _ rfl),Aw (hL.2 1 _ rfl),Aw (hL.2 2 _ rfl),(Bool.eq_false_iff.2 h93),Ae⟩ ?_
   refine DZ 5 [0,1,2,3,4,5,6,7,8,9] [(Ak w),(Df z c),(DY z),(Du z c),(TQ z B1 B2 B3 cR b87),(caps 3 B1),(caps 3 B2),(caps 3 B3),(Eu z n17),(XX c p n91)] rfl rfl ?_
   refine Ci [(0,o0),(1,(a1 9)),(2,o0),(3,(an 2 9)),(4,o0)] [3,22,2] [Qb n91,Qb n91,Qb n91] (Dw 5 1) [(CU z),(22,.agg #[i6 ((Ea c p).Ag.First),i6 ((Ea c p).Ag.Second)]),(2,i6 ((Ea c p).e))] ⟨rfl,rfl,rfl,Ae⟩ ?_
   refine Bq 5 ?_
   refine BC (an 2 2) [3,2] [Qb (z+1),Qb (z+1)] [(CU z),(2,i6 ((Ea c p).e))] ⟨w,n91+1,[(Ak w),(Df z c),(qdvx_5 z c p),(Du z c),(TQ z B1 B2 B3 cR b87),(caps 3 B1),(caps 3 B2),(caps 3 B3),(Eu z n17),(XX c p n91)]⟩ [] ⟨rfl,rfl,Ae⟩ (.inl rfl) ?_
   refine DX 6 [0,1,2,3,4,5,6,7,8,9] [(Ak w),(Df z c),(qdvx_5 z c p),(Du z c),(TQ z B1 B2 B3 cR b87),(caps 3 B1),(caps 3 B2),(caps 3 B3),(Eu z n17),(XX c p n91)] rfl rfl ?_
   refine CE ?_
   refine BI [3,2] [(CU z),(2,i6 ((Ea c p).e))] ?_
   refine Gy <| Iu <| Az [.at 2,.at 2] [Qb (z+1),Qb (z+1)] (.tuple #[i6 ((Ea c p).e),.agg #[i6 ((Ea c p).Ag.First),i6 ((Ea c p).Ag.Second)]]) ⟨rfl,rfl,Ae⟩ ?_
   intro w94 hw94
   exact⟨congrArg (fun t:Am=>Ending.returned (.tuple #[i6 t.e,.agg #[i6 t.Ag.First,i6 t.Ag.Second]])) ((NM (xs:=answers c) (k:=k) (by rw[GM];omega) hf (by rw[ha];exact fun x=>h93 (G9.2 x))).trans ha).symm,AB hw94⟩
  have hFr:=Xa hf (by omega)
  have hpf:∀ q,q<c.Aa.xs.length→CP c q=AQ:=fun q hq=>Zau hf hq (by omega)
  refine Nu (base:=z) (e:=130) (sz:=1) (cells:=(fun v:Value=>[v])) (a:=aR) (n:=((asks (z+2) B1 B2 B3).length)) (cap:=cR) (xs:=(asks (z+2) B1 B2 B3)) 4 (by omega) (fun b95 hg96 hb97 => ?_)
  subst hg96
  refine Au 5 1 [] [[(oi k),(oa [.via 4 (.func (.func 75) #[] #[pt (z+2)])]),o0],[o0]] [Dc k,k<(asks (z+2) B1 B2 B3).length,BM,∀ w',Ch.holds (Ud z B1 B2 B3 cR b95) w'→w'.cell? ⟨b95,0+k,none⟩=some (.func (.func 75) #[] #[pt (z+2)])] [(CU z),(VE z B1 B2 B3 cR b95),(Et z B1 B2 B3),(10,Ac k),(14,.func (.func 75) #[] #[pt (z+2)])] rfl ⟨rfl,(by omega),rfl,C9 (sz:=1) (j:=k) (k:=0) (fun _=>rfl) (by omega) (congrArg some hv),Ae⟩ ?_
  refine Ba 75 #[pt (z+2)] (some 15) (.agg (Am.arr (I4 c))) (fun w98 hw98=>q9_calls w98 (hL.ext (hw98.ext rfl)) c (hc.ext (hw98.ext rfl) (fun _ h=>h)) (z+2) (NE hw98 (i:=3)) hFr hpf) (fun n99 (hn100:n29≤n99) => ?_)
  refine EI 3 0 [] [[o0,(an 3 9)]] [Qb n99,Qb n99,Qb n99] [(CU z),(VE z B1 B2 B3 cR b95),(Et z B1 B2 B3),(10,Ac k),(6,pt n99)] ⟨w,n99+1,[(Ak w),(Df z c),(DY z),(Du z c),(Ud z B1 B2 B3 cR b95),(caps 3 B1),(caps 3 B2),(caps 3 B3),(Eu z n17),(Y6 c n99)]⟩ rfl ⟨rfl,rfl,rfl,Ae⟩ ?_
  by_cases h101:(((I4 c).e:Int)==(0:Int)&&((((I4 c).Ag.First:Int)==(0:Int)&&(((I4 c).Ag.Second:Int)==(0:Int)&&true))&&true))=true
  ·refine Au 9 0 [0] [[(an 3 9),(oa [.via 0 (i6 0),.via 0 (i6 0),.via 0 (i6 0)]),⟨.seq true,none⟩],[(ov (i6 ((k+1:Nat):Int))),o0]] [Qb n99,Qb n99,Qb n99,Old w 0 0 (i6 0),Old w 0 1 (i6 0),Old w 0 2 (i6 0),(((I4 c).e:Int)==(0:Int)&&((((I4 c).Ag.First:Int)==(0:Int)&&(((I4 c).Ag.Second:Int)==(0:Int)&&true))&&true))=true,Wr ((k:Int)+1) (((k+1:Nat):Int))] [(CU z),(VE z B1 B2 B3 cR b95),(Et z B1 B2 B3),(JO k)] rfl ⟨rfl,rfl,rfl,Aw (hL.2 0 _ rfl),Aw (hL.2 1 _ rfl),Aw (hL.2 2 _ rfl),h101,BP,Ae⟩ ?_
   refine Cc [0,1,2,3,4,5,6,7,8] [(Ak w),(Df z c),(DY z),(Du z c),(Ud z B1 B2 B3 cR b95),(caps 3 B1),(caps 3 B2),(caps 3 B3),(Eu z n17)] rfl rfl ?_
   refine BI [3,8,9,10] [(CU z),(VE z B1 B2 B3 cR b95),(Et z B1 B2 B3),(JO k)] ?_
   refine BR (fun a w' hs=>⟨(asks (z+2) B1 B2 B3).length - (k+1),by omega,(n99+1),(k+1),(some ⟨b95,0,none⟩),cR,rfl,by omega,by omega,EP hf (by rw[ha];exact G9.1 h101),hs⟩)
  refine Au 5 0 [1] [[(an 3 9),(oa [.via 0 (i6 0),.via 0 (i6 0),.via 0 (i6 0)]),⟨.seq false,none⟩]] [Qb n99,Qb n99,Qb n99,Old w 0 0 (i6 0),Old w 0 1 (i6 0),Old w 0 2 (i6 0),(((I4 c).e:Int)==(0:Int)&&((((I4 c).Ag.First:Int)==(0:Int)&&(((I4 c).Ag.Second:Int)==(0:Int)&&true))&&true))=false] [(CU z),(VE z B1 B2 B3 cR b95),(Et z B1 B2 B3),(10,Ac k),(6,pt n99),(18,.bool true)] rfl ⟨rfl,rfl,rfl,Aw (hL.2 0 _ rfl),Aw (hL.2 1 _ rfl),Aw (hL.2 2 _ rfl),(Bool.eq_false_iff.2 h101),Ae⟩ ?_
  refine DZ 5 [0,1,2,3,4,5,6,7,8,9] [(Ak w),(Df z c),(DY z),(Du z c),(Ud z B1 B2 B3 cR b95),(caps 3 B1),(caps 3 B2),(caps 3 B3),(Eu z n17),(Y6 c n99)] rfl rfl ?_
  refine Ci [(0,o0),(1,(a1 9)),(2,o0),(3,(an 2 9)),(4,o0)] [3,22,2] [Qb n99,Qb n99,Qb n99] (Dw 5 1) [(CU z),(22,.agg #[i6 ((I4 c).Ag.First),i6 ((I4 c).Ag.Second)]),(2,i6 ((I4 c).e))] ⟨rfl,rfl,rfl,Ae⟩ ?_
  refine Bq 5 ?_
  refine BC (an 2 2) [3,2] [Qb (z+1),Qb (z+1)] [(CU z),(2,i6 ((I4 c).e))] ⟨w,n99+1,[(Ak w),(Df z c),(qdvx_11 z c),(Du z c),(Ud z B1 B2 B3 cR b95),(caps 3 B1),(caps 3 B2),(caps 3 B3),(Eu z n17),(Y6 c n99)]⟩ [] ⟨rfl,rfl,Ae⟩ (.inl rfl) ?_
  refine DX 6 [0,1,2,3,4,5,6,7,8,9] [(Ak w),(Df z c),(qdvx_11 z c),(Du z c),(Ud z B1 B2 B3 cR b95),(caps 3 B1),(caps 3 B2),(caps 3 B3),(Eu z n17),(Y6 c n99)] rfl rfl ?_
  refine CE ?_
  refine BI [3,2] [(CU z),(2,i6 ((I4 c).e))] ?_
  refine Gy <| Iu <| Az [.at 2,.at 2] [Qb (z+1),Qb (z+1)] (.tuple #[i6 ((I4 c).e),.agg #[i6 ((I4 c).Ag.First),i6 ((I4 c).Ag.Second)]]) ⟨rfl,rfl,Ae⟩ ?_
  intro w102 hw102
  exact⟨congrArg (fun t:Am=>Ending.returned (.tuple #[i6 t.e,.agg #[i6 t.Ag.First,i6 t.Ag.Second]])) ((NM (xs:=answers c) (k:=k) (by rw[GM];omega) hf (by rw[ha];exact fun x=>h101 (G9.2 x))).trans ha).symm,AB hw102⟩
 refine Au 15 0 [0] [[oF],[o0,o0,(an 2 2)]] [BF ((k:Int)<(((asks (z+2) B1 B2 B3).length:Nat):Int)),Qb (z+1),Qb (z+1)] [(CU z),(2,i6 0)] rfl ⟨bf,rfl,rfl,Ae⟩ ?_
 refine Az [.at 2,.at 2] [Qb (z+1),Qb (z+1)] (.tuple #[i6 0,.agg #[i6 0,i6 0]]) ⟨rfl,rfl,Ae⟩ ?_
 intro w103 hw103
 exact⟨congrArg (fun t:Am=>Ending.returned (.tuple #[i6 t.e,.agg #[i6 t.Ag.First,i6 t.Ag.Second]])) (ZaI (xs:=answers c) (fun i hi=>hf i (by rw[GM]at hi;omega))).symm,AB hw103⟩
end Go.Proofs.YtlccogilgegnfaaDoor.Ad
namespace Go.Proofs.YtlccogilgegnfaaDoor.Eng
open Go Go.Proofs.YtlccogilgegnfaaDoor.Mem Go.ChangeShapes Go.WideShapes Go.Deep
set_option linter.unusedSimpArgs false
set_option linter.unusedVariables false
section
variable {P:Program}{t:TypeId}
theorem Q7{α:Type}[Inhabited α]{cells:α→List Value}{ok:(Nat→Prop)→World→α→Prop}{e:TypeId}{sz:Nat}(ht:P.underlying t=some (.slice e))(hc:P.cellsOf e=sz)(hsz:∀ x,(cells x).length=sz)(hs0:0<sz)(hpos:Nat.blt 0 (P.bytesOf e)=true)(h:Rd P e cells ok) :
   Rd P t (fun s:Sl α=>[s.val]) (fun F W s=>Nh cells sz ok F W s∧s.xs.length*P.bytesOf e≤reachBytes):=by
 intro H enc W fuel cs x hx hw
 rcases open_slice ht hx with⟨rfl,rfl⟩ | ⟨a,len,cap,m,n,D,Pl,rfl,hb,hl,hm,hmm,rfl,hi⟩
 · exact⟨⟨none,0,[]⟩,rfl,⟨⟨Nat.zero_le _,Nat.le_refl _,fun h=>absurd rfl h⟩,fun i hi=>absurd hi (Nat.not_lt_zero i)⟩,by simp⟩
 · simp only[if_true]at hmm
   subst hmm
   rw[hc]at hi
   have hww:∀ q∈DataW.weightsAll P e ((List.range len).map D),q≤reachBytes:=fun q hq=>hw q (by simp only[DataW.weights,ht,List.mem_cons,List.mem_append];exact .inr (.inl hq))
   have hY:∀ i,i<len→∃ y:α,(W.cells? 0 (a.add (i*sz)) sz=some (cells y))∧ok Any W y:=by
     intro i hi'
     obtain⟨cs',h1,h2⟩:=hi i (by omega)
     obtain⟨y,rfl,hy⟩:=h H enc W n cs' _ h2 (fun q hq=>hww q (weightsAll_mem (d:=D i) (List.mem_map_of_mem (List.mem_range.2 hi')) q hq))
     exact⟨y,h1,hy⟩
   obtain⟨Y,hY⟩:=choose_lt hY
   have hbig:(len+(m - len))*P.bytesOf e≤reachBytes:=hw _ (by simp[DataW.weights,ht])
   have hlen:len+(m - len)≤140737488351232:=Nat.le_trans (Nat.le_mul_of_pos_right _ (by simpa using hpos)) hbig
   have hg:∀ i,i<len→gd ((List.range len).map Y) i=Y i:=fun i hi'=>by rw[EW (by simpa using hi')];simp
   refine⟨⟨some a,m,(List.range len).map Y⟩,by simp[Sl.val],⟨⟨by simp;omega,by simpa using hl,fun hne => ?_⟩,fun i hi' => ?_⟩,Nat.le_trans (Nat.mul_le_mul_right _ (by simp)) hbig⟩
   · have h0:0<len:=by
       rcases Nat.eq_zero_or_pos len with h | h
       · subst h;exact absurd rfl hne
       · exact h
     have hsp:a.spot=none:=by
       obtain⟨-, -,h3⟩:=World.cells?_some (hY 0 h0).1
       have h4:=h3 0 hs0
       rw[List.getElem?_eq_getElem (by rw[hsz];exact hs0)]at h4
       have:=World.cell?_spot h4
       simpa[Addr.add]using this
     obtain⟨b,off,sp⟩:=a
     simp only at hsp;subst hsp
     refine⟨b,off,rfl,Ae,fun i hi' k v hv => ?_⟩
     have hi2:i<len:=by simpa using hi'
     obtain⟨-, -,h3⟩:=World.cells?_some (hY i hi2).1
     have hv':(cells (Y i))[k]? = some v:=by simpa using hv
     have hk:k<sz:=by rw[←hsz (Y i)];exact(List.getElem?_eq_some_iff.1 hv').1
     have:=h3 k hk
     rw[hv']at this
     rw[Jy]
     have e1:(⟨b,off,none⟩:Addr).add (i*sz)=⟨b,off+i*sz,none⟩:=Nb rfl _
     have e2:(⟨b,off+i*sz,none⟩:Addr).add k=⟨b,off+i*sz+k,none⟩:=Nb rfl _
     rw[e1,e2]at this
     exact this
   · have hi2:i<len:=by simpa using hi'
     rw[hg i hi2];exact(hY i hi2).2
end
end Go.Proofs.YtlccogilgegnfaaDoor.Eng
namespace Go.Proofs.YtlccogilgegnfaaDoor.Ad
open Go Go.Proofs.YtlccogilgegnfaaDoor.Eng Go.Proofs.YtlccogilgegnfaaDoor.Mem Go.Proofs.YtlccogilgegnfaaDoor.Ly
set_option linter.unusedSimpArgs false
set_option linter.unusedVariables false
set_option maxRecDepth 100000
structure Lim(c:Ai):Prop where
 cl:c.Bc.xs.length*24≤140737488351232
 pl:c.Aa.xs.length*104≤140737488351232
 hl:c.Aj.xs.length*24≤140737488351232
 ws:∀ i,i<c.Bc.xs.length→(gd c.Bc.xs i).xs.length*24≤140737488351232
 rs:∀ i,i<c.Aa.xs.length→(gd c.Aa.xs i).Ah.xs.length*32≤140737488351232
 qs:∀ i,i<c.Aa.xs.length→(gd c.Aa.xs i).Ap.xs.length*16≤140737488351232
open Go.ChangeShapes Go.WideShapes Go.Deep
theorem rd_TWindow:Rd Tryd.prog 158 Fq.cells Fq.ok:=by
 intro H enc W fuel cs x hx hw
 obtain⟨xs,n, -,rfl,hl,hlen,hf⟩:=DataW.trod_struct Tryd.underlying158 hx
 rw[show Tryd.prog.cellsOf 158=3 from by kernel_rfl]at hl
 match cs,hl with
 | [c0,c1,c2],_ =>
  obtain⟨y0,e0,k0⟩:=EN Tryd.underlying158 hlen hf hw 0 0 1 _ rfl rfl (by kernel_rfl) (I7 Tryd.underlying3)
  have g0:[c0]=_:=e0
  simp only[List.cons.injEq,and_true]at g0
  subst g0
  obtain⟨y1,e1,k1⟩:=EN Tryd.underlying158 hlen hf hw 1 1 1 _ rfl rfl (by kernel_rfl) (I7 Tryd.underlying3)
  have g1:[c1]=_:=e1
  simp only[List.cons.injEq,and_true]at g1
  subst g1
  obtain⟨y2,e2,k2⟩:=EN Tryd.underlying158 hlen hf hw 2 2 1 _ rfl rfl (by kernel_rfl) (I7 Tryd.underlying3)
  have g2:[c2]=_:=e2
  simp only[List.cons.injEq,and_true]at g2
  subst g2
  exact⟨⟨y0,y1,y2⟩,rfl,⟨k0,k1,k2⟩⟩
theorem rd_TRegion:Rd Tryd.prog 147 CS.cells CS.ok:=by
 intro H enc W fuel cs x hx hw
 obtain⟨xs,n, -,rfl,hl,hlen,hf⟩:=DataW.trod_struct Tryd.underlying147 hx
 rw[show Tryd.prog.cellsOf 147=4 from by kernel_rfl]at hl
 match cs,hl with
 | [c0,c1,c2,c3],_ =>
  obtain⟨y0,e0,k0⟩:=EN Tryd.underlying147 hlen hf hw 0 0 1 _ rfl rfl (by kernel_rfl) (I7 Tryd.underlying3)
  have g0:[c0]=_:=e0
  simp only[List.cons.injEq,and_true]at g0
  subst g0
  obtain⟨y1,e1,k1⟩:=EN Tryd.underlying147 hlen hf hw 1 1 1 _ rfl rfl (by kernel_rfl) (I7 Tryd.underlying3)
  have g1:[c1]=_:=e1
  simp only[List.cons.injEq,and_true]at g1
  subst g1
  obtain⟨y2,e2,k2⟩:=EN Tryd.underlying147 hlen hf hw 2 2 1 _ rfl rfl (by kernel_rfl) (I7 Tryd.underlying3)
  have g2:[c2]=_:=e2
  simp only[List.cons.injEq,and_true]at g2
  subst g2
  obtain⟨y3,e3,k3⟩:=EN Tryd.underlying147 hlen hf hw 3 3 1 _ rfl rfl (by kernel_rfl) (I7 Tryd.underlying3)
  have g3:[c3]=_:=e3
  simp only[List.cons.injEq,and_true]at g3
  subst g3
  exact⟨⟨y0,y1,y2,y3⟩,rfl,⟨k0,k1,k2,k3⟩⟩
theorem rd_TPort:Rd Tryd.prog 127 EE.cells EE.ok:=by
 intro H enc W fuel cs x hx hw
 obtain⟨xs,n, -,rfl,hl,hlen,hf⟩:=DataW.trod_struct Tryd.underlying127 hx
 rw[show Tryd.prog.cellsOf 127=2 from by kernel_rfl]at hl
 match cs,hl with
 | [c0,c1],_ =>
  obtain⟨y0,e0,k0⟩:=EN Tryd.underlying127 hlen hf hw 0 0 1 _ rfl rfl (by kernel_rfl) (I7 Tryd.underlying3)
  have g0:[c0]=_:=e0
  simp only[List.cons.injEq,and_true]at g0
  subst g0
  obtain⟨y1,e1,k1⟩:=EN Tryd.underlying127 hlen hf hw 1 1 1 _ rfl rfl (by kernel_rfl) (Zaq Tryd.underlying4)
  have g1:[c1]=_:=e1
  simp only[List.cons.injEq,and_true]at g1
  subst g1
  exact⟨⟨y0,y1⟩,rfl,⟨k0,k1⟩⟩
theorem rd_TChannel:Rd Tryd.prog 123 Be.cells Be.ok:=by
 intro H enc W fuel cs x hx hw
 obtain⟨xs,n, -,rfl,hl,hlen,hf⟩:=DataW.trod_struct Tryd.underlying123 hx
 rw[show Tryd.prog.cellsOf 123=3 from by kernel_rfl]at hl
 match cs,hl with
 | [c0,c1,c2],_ =>
  obtain⟨y0,e0,k0⟩:=EN Tryd.underlying123 hlen hf hw 0 0 1 _ rfl rfl (by kernel_rfl) (I7 Tryd.underlying3)
  have g0:[c0]=_:=e0
  simp only[List.cons.injEq,and_true]at g0
  subst g0
  obtain⟨y1,e1,k1⟩:=EN Tryd.underlying123 hlen hf hw 1 1 1 _ rfl rfl (by kernel_rfl) (I7 Tryd.underlying3)
  have g1:[c1]=_:=e1
  simp only[List.cons.injEq,and_true]at g1
  subst g1
  obtain⟨y2,e2,k2⟩:=EN Tryd.underlying123 hlen hf hw 2 2 1 _ rfl rfl (by kernel_rfl) (I7 Tryd.underlying3)
  have g2:[c2]=_:=e2
  simp only[List.cons.injEq,and_true]at g2
  subst g2
  exact⟨⟨y0,y1,y2⟩,rfl,⟨k0,k1,k2⟩⟩
theorem rd_PartB:Rd Tryd.prog 35 Aq.cells (fun F W x=>Aq.ok F W x∧x.Ah.xs.length*Tryd.prog.bytesOf 147≤reachBytes∧x.Ap.xs.length*Tryd.prog.bytesOf 127≤reachBytes):=by
 intro H enc W fuel cs x hx hw
 obtain⟨xs,n, -,rfl,hl,hlen,hf⟩:=DataW.trod_struct Tryd.underlying35 hx
 rw[show Tryd.prog.cellsOf 35=8 from by kernel_rfl]at hl
 match cs,hl with
 | [c0,c1,c2,c3,c4,c5,c6,c7],_ =>
  obtain⟨y0,e0,k0⟩:=EN Tryd.underlying35 hlen hf hw 0 0 1 _ rfl rfl (by kernel_rfl) (rd_string Tryd.underlying9)
  have g0:[c0]=_:=e0
  simp only[List.cons.injEq,and_true]at g0
  subst g0
  obtain⟨y1,e1,k1⟩:=EN Tryd.underlying35 hlen hf hw 1 1 1 _ rfl rfl (by kernel_rfl) (I7 Tryd.underlying3)
  have g1:[c1]=_:=e1
  simp only[List.cons.injEq,and_true]at g1
  subst g1
  obtain⟨y2,e2,k2⟩:=EN Tryd.underlying35 hlen hf hw 2 2 1 _ rfl rfl (by kernel_rfl) (I7 Tryd.underlying3)
  have g2:[c2]=_:=e2
  simp only[List.cons.injEq,and_true]at g2
  subst g2
  obtain⟨y3,e3,k3⟩:=EN Tryd.underlying35 hlen hf hw 3 3 1 _ rfl rfl (by kernel_rfl) (I7 Tryd.underlying3)
  have g3:[c3]=_:=e3
  simp only[List.cons.injEq,and_true]at g3
  subst g3
  obtain⟨y4,e4,k4⟩:=EN Tryd.underlying35 hlen hf hw 4 4 1 _ rfl rfl (by kernel_rfl) (I7 Tryd.underlying3)
  have g4:[c4]=_:=e4
  simp only[List.cons.injEq,and_true]at g4
  subst g4
  obtain⟨y5,e5,k5⟩:=EN Tryd.underlying35 hlen hf hw 5 5 1 _ rfl rfl (by kernel_rfl) (I7 Tryd.underlying3)
  have g5:[c5]=_:=e5
  simp only[List.cons.injEq,and_true]at g5
  subst g5
  obtain⟨y6,e6,k6⟩:=EN Tryd.underlying35 hlen hf hw 6 6 1 _ rfl rfl (by kernel_rfl) (Q7 (cells:=CS.cells) (sz:=4) Tryd.underlying32 (by kernel_rfl) (fun _=>rfl) (by decide) (by kernel_rfl) rd_TRegion)
  have g6:[c6]=_:=e6
  simp only[List.cons.injEq,and_true]at g6
  subst g6
  obtain⟨y7,e7,k7⟩:=EN Tryd.underlying35 hlen hf hw 7 7 1 _ rfl rfl (by kernel_rfl) (Q7 (cells:=EE.cells) (sz:=2) Tryd.underlying33 (by kernel_rfl) (fun _=>rfl) (by decide) (by kernel_rfl) rd_TPort)
  have g7:[c7]=_:=e7
  simp only[List.cons.injEq,and_true]at g7
  subst g7
  exact⟨⟨y0,y1,y2,y3,y4,y5,y6,y7⟩,rfl,⟨⟨k0,k1,k2,k3,k4,k5,k6.1,k7.1⟩,k6.2,k7.2⟩⟩
theorem rd_Conf:Rd Tryd.prog 26 Ai.cells (fun F W x=>Ai.ok F W x∧Lim x):=by
 intro H enc W fuel cs x hx hw
 obtain⟨xs,n, -,rfl,hl,hlen,hf⟩:=DataW.trod_struct Tryd.underlying26 hx
 rw[show Tryd.prog.cellsOf 26=7 from by kernel_rfl]at hl
 match cs,hl with
 | [c0,c1,c2,c3,c4,c5,c6],_ =>
  obtain⟨y0,e0,k0⟩:=EN Tryd.underlying26 hlen hf hw 0 0 1 _ rfl rfl (by kernel_rfl) (I7 Tryd.underlying3)
  have g0:[c0]=_:=e0
  simp only[List.cons.injEq,and_true]at g0
  subst g0
  obtain⟨y1,e1,k1⟩:=EN Tryd.underlying26 hlen hf hw 1 1 1 _ rfl rfl (by kernel_rfl) (I7 Tryd.underlying3)
  have g1:[c1]=_:=e1
  simp only[List.cons.injEq,and_true]at g1
  subst g1
  obtain⟨y2,e2,k2⟩:=EN Tryd.underlying26 hlen hf hw 2 2 1 _ rfl rfl (by kernel_rfl) (I7 Tryd.underlying3)
  have g2:[c2]=_:=e2
  simp only[List.cons.injEq,and_true]at g2
  subst g2
  obtain⟨y3,e3,k3⟩:=EN Tryd.underlying26 hlen hf hw 3 3 1 _ rfl rfl (by kernel_rfl) (I7 Tryd.underlying3)
  have g3:[c3]=_:=e3
  simp only[List.cons.injEq,and_true]at g3
  subst g3
  obtain⟨y4,e4,k4⟩:=EN Tryd.underlying26 hlen hf hw 4 4 1 _ rfl rfl (by kernel_rfl) (Q7 (cells:=(fun x:Sl Fq=>[Sl.val x])) (sz:=1) Tryd.underlying22 (by kernel_rfl) (fun _=>rfl) (by decide) (by kernel_rfl) (Q7 (cells:=Fq.cells) (sz:=3) Tryd.underlying156 (by kernel_rfl) (fun _=>rfl) (by decide) (by kernel_rfl) rd_TWindow))
  have g4:[c4]=_:=e4
  simp only[List.cons.injEq,and_true]at g4
  subst g4
  obtain⟨y5,e5,k5⟩:=EN Tryd.underlying26 hlen hf hw 5 5 1 _ rfl rfl (by kernel_rfl) (Q7 (cells:=Aq.cells) (sz:=8) Tryd.underlying23 (by kernel_rfl) (fun _=>rfl) (by decide) (by kernel_rfl) rd_PartB)
  have g5:[c5]=_:=e5
  simp only[List.cons.injEq,and_true]at g5
  subst g5
  obtain⟨y6,e6,k6⟩:=EN Tryd.underlying26 hlen hf hw 6 6 1 _ rfl rfl (by kernel_rfl) (Q7 (cells:=Be.cells) (sz:=3) Tryd.underlying24 (by kernel_rfl) (fun _=>rfl) (by decide) (by kernel_rfl) rd_TChannel)
  have g6:[c6]=_:=e6
  simp only[List.cons.injEq,and_true]at g6
  subst g6
  exact⟨⟨y0,y1,y2,y3,y4,y5,y6⟩,rfl,⟨⟨k0,k1,k2,k3,⟨k4.1.1,fun i hi=>(k4.1.2 i hi).1⟩,⟨k5.1.1,fun i hi=>(k5.1.2 i hi).1⟩,k6.1⟩,⟨by have h:=k4.2;rw[(show Tryd.prog.bytesOf 156=24 from by kernel_rfl)]at h;exact h,by have h:=k5.2;rw[(show Tryd.prog.bytesOf 35=104 from by kernel_rfl)]at h;exact h,by have h:=k6.2;rw[(show Tryd.prog.bytesOf 123=24 from by kernel_rfl)]at h;exact h,fun i hi=>by have h:=(k4.1.2 i hi).2;rw[(show Tryd.prog.bytesOf 158=24 from by kernel_rfl)]at h;exact h,fun i hi=>by have h:=(k5.1.2 i hi).2.1;rw[(show Tryd.prog.bytesOf 147=32 from by kernel_rfl)]at h;exact h,fun i hi=>by have h:=(k5.1.2 i hi).2.2;rw[(show Tryd.prog.bytesOf 127=16 from by kernel_rfl)]at h;exact h⟩⟩⟩
theorem Lim.sum{c:Ai}(h:Lim c):c.Aa.xs.length+c.Aj.xs.length+c.Bc.xs.length≤15000000000000:=by
 have h1:=h.cl;have h2:=h.pl;have h3:=h.hl
 omega
end Go.Proofs.YtlccogilgegnfaaDoor.Ad
namespace Go.Proofs.YtlccogilgegnfaaDoor.Eng
open Go Go.Proofs.YtlccogilgegnfaaDoor.Mem
set_option linter.unusedSimpArgs false
set_option linter.unusedVariables false
section
variable {P:Program}{N:Nat}{env:Env}{ds:List Deferred}{A:AW}{ops:Array Oper}{l:List Oper}{s:List Kt}{Q:Exit→Act→World→Prop}
theorem RZ{α:Type}{cells:α→List Value}{sz:Nat}(hsz:∀ x,(cells x).length=sz):∀ zs:List α,(zs.flatMap cells).length=zs.length*sz
 | []=>by simp
 | z :: zs=>by rw[List.flatMap_cons,List.length_append,hsz,RZ hsz zs,List.length_cons,Nat.succ_mul];omega
theorem flat_drop{α:Type}{cells:α→List Value}{sz:Nat}(hsz:∀ x,(cells x).length=sz):∀ (zs:List α) (m:Nat),(zs.drop m).flatMap cells=(zs.flatMap cells).drop (m*sz)
 | zs,0=>by simp
 | [],m+1=>by simp
 | z :: zs,m+1=>by
  have h1:(cells z).length≤(m+1)*sz:=by rw[hsz,Nat.succ_mul];omega
  have h2:(m+1)*sz - (cells z).length=m*sz:=by rw[hsz,Nat.succ_mul];omega
  rw[List.drop_succ_cons,flat_drop hsz zs m,List.flatMap_cons]
  rw[List.drop_append,List.drop_eq_nil_of_le h1,h2,List.nil_append]
end
section
variable {P:Program}{N:Nat}{env:Env}{ds:List Deferred}{A:AW}{ops:Array Oper}{l:List Oper}{s:List Kt}{Q:Exit→Act→World→Prop}
def Za3(o:Oper):Option (Operand×TypeId):=match o.op with
 | .call c=>match c.callee,c.args.toList,c.argTypes.toList with
  | .builtin .clear,[x],[t]=>some (x,t)
  | _,_,_=>none
 | _=>none
theorem clearOf_spec{o:Oper}{x:Operand}{t:TypeId}(h:Za3 o=some (x,t)):o.op = .call { callee:= .builtin .clear,args:= #[x],argTypes:= #[t] }:=by
 unfold Za3 at h
 split at h
 ·rename_i c hop
  split at h
  ·rename_i x' t' h1 h2 h3
   simp only[Option.some.injEq,Prod.mk.injEq]at h
   obtain⟨rfl,rfl⟩:=h
   obtain⟨c1,c2,c3⟩:=c
   simp only at h1 h2 h3
   rw[hop,h1]
   congr 2
   ·apply Array.ext';rw[h2]
   apply Array.ext';rw[h3]
  cases h
 cases h
def clearA(P:Program)(N:Nat)(ops:Array Oper)(env:Env)(o:Oper):Option (TypeId×Nat×Value×Nat×Nat×Nat):=match Za3 o,Oc ops env o,Ld env o,Oa N o.dst with
 | some (x,t),some true,true,true=>match P.underlying t,IR env x with
  | some (.slice e),.slice (some ⟨g,0,none⟩) n c=>match P.info? e with
   | some f=>match f.zero with
    | some z=>match Nat.beq z.cells.size f.size&&Nat.blt 0 f.size with
     | true=>some (e,f.size,z,g,n,c)
     | false=>none
    | none=>none
   | none=>none
  | _,_=>none
 | _,_,_,_=>none
theorem run_clear{P:Program}(w:World)(t ty elem:TypeId)(g n cap:Nat)(z:Value)(f:TypeInfo)(cur:Array Value)(te:TypeId)
   (hu:P.underlying t=some (.slice elem)) (hf:P.info? elem=some f) (hz:f.zero=some z) (hg:w.heap[g]? = some (.cells cur te (0,0))) (hfit:n*z.cells.size≤cur.size) (h1:∀ v∈z.cells.toList,v.oneCell'=true) (hp:0<z.cells.size) :
   (Builtin.clear_ #[t] ty #[.slice (some ⟨g,0,none⟩) n cap]).run P w =
     .ok (.tuple #[]) (w.setRow g (((List.replicate n z.cells.toList).flatten)++cur.toList.drop (n*z.cells.size)).toArray):=by
 have hfl:=XM hp n
 have hzc:(Builtin.zeroCells z.cells n).toList=(List.replicate n z.cells.toList).flatten:=hfl
 by_cases h0:n=0
 · subst h0
   simp only[Builtin.clear_,List.getElem?_toArray,List.getElem?_cons_zero,run_underlying hu,Sem.run_bind,Sem.run_pure,Result.andThen_ok]
   simp[Sem.run,setRow_self w g cur te (0,0) hg]
 · have hlen:((List.replicate n z.cells.toList).flatten).length=n*z.cells.size:=by simp
   have hst:=run_storeCells_at P g 0 te ((List.replicate n z.cells.toList).flatten) 0 cur w hg (by rw[hlen];omega) (fun v hv=>by
     obtain⟨l,hl,hv⟩:=List.mem_flatten.1 hv
     rw[List.eq_of_mem_replicate hl]at hv
     exact h1 v hv)
   rw[hlen]at hst
   simp only[Nat.zero_add,List.take_zero,List.nil_append]at hst
   obtain⟨m,rfl⟩:=Nat.exists_eq_succ_of_ne_zero h0
   simp[Builtin.clear_,run_underlying hu,zeroValue,typeInfo,hf,hz,hzc,hst]
theorem clear_run{α:Type}{base:Nat}{o:Oper}{e:TypeId}{sz g n c':Nat}{z:Value}(h:clearA P N ops env o=some (e,sz,z,g,n,c')){i:Nat}{cells:α→List Value}{xs:List α}{zt:α}{a:Act}{w:World}(hst:St N env ds A a w)
   (hi:A.σ[i]? = some (BV base e sz cells (.slice (some ⟨g,0,none⟩) n c') xs)) (hz:z.cells.toList=cells zt) (h1:∀ u∈cells zt,u.oneCell'=true) (hx:xs=List.replicate n zt) :
   Region.wanted o (yielded ops a.tmps)=true∧Oa N o.dst=true∧(execOp a.eval o).run P w = .ok (.value (.tuple #[])) w:=by
 unfold clearA at h
 split at h
 · rename_i x t hop0 hw hk hd0
   have hop:=clearOf_spec hop0
   split at h
   · rename_i e' g' n' c2 ht hxv
     split at h
     · rename_i f hf
       split at h
       · rename_i z' hz'
         split at h
         · rename_i hsz
           simp only[Option.some.injEq,Prod.mk.injEq]at h
           obtain⟨rfl,rfl,rfl,rfl,rfl,rfl⟩:=h
           rw[Bool.and_eq_true]at hsz
           have hs1:=Nat.eq_of_beq_eq_true hsz.1
           have hs2:0<f.size:=by simpa using hsz.2
           refine⟨FN hw hst,hd0, ?_⟩
           rw[Ir hst hk]
           subst hx
           have hown:w.ownsRow base e' f.size (.slice (some ⟨g',0,none⟩) n' c2) (List.replicate n' zt).length ((List.replicate n' zt).flatMap cells):=hst.mem.at hi
           rw[List.length_replicate]at hown
           rcases hown.2 with⟨h2,h3⟩ | ⟨g2,cap2,cur,h2,hbg,hg,hnc,hcm,hcs,htake⟩
           · cases h2
           · cases h2
             have hms:n' * f.size≤cur.size:=by rw[hcs];exact Nat.mul_le_mul_right _ hnc
             have hr:=run_clear (P:=P) w t o.type e' g' n' c2 z' f cur e' ht hf hz' hg (by rw[hs1];exact hms) (fun v hv=>h1 v (by rw[←hz];exact hv)) (by rw[hs1];exact hs2)
             have hsame:((List.replicate n' z'.cells.toList).flatten++cur.toList.drop (n' * z'.cells.size)).toArray=cur:=by
               rw[hz,YX,←htake,hs1,List.take_append_drop]
             rw[hsame,setRow_self w g' cur e' (0,0) hg]at hr
             unfold execOp
             simp only[hop,resolve,invoke,builtin,Sem.run_bind,Sem.run_pure,Result.andThen_ok,List.map_toArray,List.map_cons,List.map_nil,hxv,hr]
         · cases h
       · cases h
     · cases h
   · cases h
 · cases h
theorem l_clear{α:Type}(base i:Nat)(xs:List α)(zt:α)(cells:α→List Value)(e:TypeId)(sz g n c':Nat)(z:Value)(d:Option Nat)(hx:xs=List.replicate n zt)
   (K:Lg P N (Ig env d (.tuple #[])) ds A ops (l.drop 1) s Q)
   (h:(match l with | o :: _=>(clearA P N ops env o).map (fun x=>(x,o.dst)) | []=>none)=some ((e,sz,z,g,n,c'),d):=by as_aux_lemma=>kernel_rfl) (hi:A.σ[i]? = some (BV base e sz cells (.slice (some ⟨g,0,none⟩) n c') xs):=by rfl) (hz:z.cells.toList=cells zt:=by rfl) (h1:(cells zt).all Value.oneCell'=true:=by rfl):Lg P N env ds A ops l s Q:=by
 intro a w hst
 cases l with
 | nil=>cases h
 | cons o l =>
   simp only[Option.map_eq_some_iff]at h
   obtain⟨y,hy,h⟩:=h
   simp only[Prod.mk.injEq]at h
   obtain⟨rfl,rfl⟩:=h
   obtain⟨hw,hdst,hr⟩:=clear_run (xs:=xs) hy hst hi hz (fun u hu=>List.all_eq_true.1 h1 u hu) hx
   refine KE hw (.inl hr) ?_
   exact K _ _ (hst.put hst.mem _ hdst _)
end
abbrev PE:=Int×Int×Value×Nat
def Ie{α:Type}(xs:List α)(j:Nat)(ys:List α):List α:=xs.take j++ys++xs.drop (j+ys.length)
theorem Um{α:Type}{xs ys:List α}{j:Nat}(h:j+ys.length≤xs.length):(Ie xs j ys).length=xs.length:=by
 unfold Ie;simp only[List.length_append,List.length_take,List.length_drop];omega
theorem putL_in{α:Type}{xs ys:List α}{j k:Nat}(h:j+ys.length≤xs.length)(hk:k<ys.length):(Ie xs j ys)[j+k]? = ys[k]? := by
 unfold Ie
 rw[List.append_assoc,List.getElem?_append_right (by rw[List.length_take];omega),List.length_take,Nat.min_eq_left (by omega),List.getElem?_append_left (by omega)]
 congr 1;omega
theorem putL_out{α:Type}{xs ys:List α}{j k:Nat}(h:j+ys.length≤xs.length)(hk:k<j∨j+ys.length≤k):(Ie xs j ys)[k]? = xs[k]? := by
 unfold Ie
 rcases hk with hk | hk
 ·rw[List.append_assoc,List.getElem?_append_left (by rw[List.length_take];omega),List.getElem?_take,if_pos hk]
 rw[List.getElem?_append_right (by rw[List.length_append,List.length_take];omega),List.getElem?_drop]
 congr 1;rw[List.length_append,List.length_take];omega
theorem YQ{P:Program}(w:World)(dT sT ty elem:TypeId)(g off dLen dCap sz:Nat)(a:Addr)(sLen sCap:Nat)(cur:Array Value)(t:TypeId)(cs:List Value)
   (hu:P.underlying dT=some (.slice elem)) (hs:(P.info? elem).map (·.size)=some sz)
   (hg:w.heap[g]? = some (.cells cur t (0,0))) (hn:cs.length=Nat.min sLen dLen*sz)
   (hsrc:∀ j v,cs[j]? = some v→w.cell? (a.add j)=some v) (hfit:off+cs.length≤cur.size) (h1:∀ v∈cs,v.oneCell'=true) :
   (Builtin.copy_ #[dT,sT] ty #[.slice (some ⟨g,off,none⟩) dLen dCap,.slice (some a) sLen sCap]).run P w =
     .ok (goInt (Nat.min sLen dLen)) (w.setRow g (cur.toList.take off++cs++cur.toList.drop (off+cs.length)).toArray):=by
 have hl:=run_loadCells_list (P:=P) w a cs hsrc
 have hst:=run_storeCells_at P g off t cs 0 cur w hg (by simpa using hfit) h1
 cases hq:P.info? elem with
 | none=>simp[hq]at hs
 | some i =>
   have hi:i.size=sz:=by simpa[hq]using hs
   simp[Builtin.copy_,run_underlying hu,Builtin.lenOf,Builtin.firstCells,sizeOf,typeInfo,hq,hi,←hn,hl]at hst ⊢
   simp[hst]
section
variable {P:Program}{N:Nat}{env:Env}{ds:List Deferred}{A:AW}{ops:Array Oper}{l:List Oper}{s:List Kt}{Q:Exit→Act→World→Prop}
def ZT(P:Program)(N:Nat)(ops:Array Oper)(env:Env)(o:Oper):Option (TypeId×Nat×Nat×Nat×Nat×Option Addr×Nat×Nat):=match copyOf o,Oc ops env o,Ld env o,Oa N o.dst with
 | some (x,y,t,_),some true,true,true=>match P.underlying t,IR env x,IR env y with
  | some (.slice e),.slice (some ⟨g,off,none⟩) n c,.slice ya m cp=>match P.info? e with
   | some f=>match Nat.beq f.size 1 with
    | true=>some (e,g,off,n,c,ya,m,cp)
    | false=>none
   | none=>none
  | _,_,_=>none
 | _,_,_,_=>none
theorem copyG_run{α:Type}{base:Nat}{o:Oper}{e:TypeId}{g off n c' m cp:Nat}{ya:Option Addr}(h:ZT P N ops env o=some (e,g,off,n,c',ya,m,cp)){i j n0 c0 k:Nat}{cells:α→List Value}{xs ys:List α}{a:Act}{w:World}(hst:St N env ds A a w)
   (hi:A.σ[i]? = some (BV base e 1 cells (.slice (some ⟨g,0,none⟩) n0 c0) xs)) (hsz:∀ x,(cells x).length=1) (h1:∀ x,∀ u∈cells x,u.oneCell'=true) (hd:PW cells 1 Any w ⟨ya,cp,ys⟩) (hm:ys.length=m) (hoff:off=j) (hk:Nat.min m n=k) (hk0:0<k) (hfit:j+k≤xs.length) :
   Region.wanted o (yielded ops a.tmps)=true∧Oa N o.dst=true∧∃ w',(execOp a.eval o).run P w = .ok (.value (.int .i64 (k:Int))) w'∧A.n≤w'.heap.size∧Sat { A with n:=w'.heap.size,σ:=A.σ.set i (BV base e 1 cells (.slice (some ⟨g,0,none⟩) n0 c0) (Ie xs j (ys.take k))) } w':=by
 unfold ZT at h
 split at h
 · rename_i x y t u hop0 hw hkn hd0
   have hop:=YS hop0
   split at h
   · rename_i e' g' off' n' c2 ya' m' cp' ht hx hy
     split at h
     · rename_i f' hf
       split at h
       · rename_i hf1
         simp only[Option.some.injEq,Prod.mk.injEq]at h
         obtain⟨rfl,rfl,rfl,rfl,rfl,rfl,rfl,rfl⟩:=h
         have hf1':=Nat.eq_of_beq_eq_true hf1
         refine⟨FN hw hst,hd0, ?_⟩
         rw[Ir hst hkn]
         have hinfo:(P.info? e').map (·.size)=some 1:=by rw[hf];simp[hf1']
         have hkm:k≤m':=by rw[←hk];exact Nat.min_le_left _ _
         have hne:ys≠[]:=fun e1=>by subst e1;simp at hm;omega
         obtain⟨b,boff,ha, -,hcl⟩:=hd.cells hne
         simp only at ha
         subst ha
         subst hoff
         have hown:w.ownsRow base e' 1 (.slice (some ⟨g',0,none⟩) n0 c0) xs.length (xs.flatMap cells):=hst.mem.at hi
         rcases hown.2 with⟨h2,h3⟩ | ⟨g2,cap2,cur,h2,hbg,hg,hnc,hcm,hcs,htake⟩
         · cases h2
         · cases h2
           have hyl:((ys.take k).flatMap cells).length=k:=by rw[RZ hsz,List.length_take,hm,Nat.mul_one];omega
           have hsrc:∀ q v,((ys.take k).flatMap cells)[q]? = some v→w.cell? ((⟨b,boff,none⟩:Addr).add q)=some v:=by
             intro q v hq
             refine sl_news hsz hd rfl q v ?_
             have e1:ys.flatMap cells=(ys.take k).flatMap cells++(ys.drop k).flatMap cells:=by rw[←List.flatMap_append,List.take_append_drop]
             show(ys.flatMap cells)[q]? = some v
             rw[e1,List.getElem?_append_left (List.getElem?_eq_some_iff.1 hq).1];exact hq
           have hcz:cur.size=c0:=by rw[hcs,Nat.mul_one]
           have hr:=YQ (P:=P) w t u o.type e' g' off' n' c2 1 ⟨b,boff,none⟩ m' cp' cur e' ((ys.take k).flatMap cells) ht hinfo hg (by rw[hyl,Nat.mul_one];exact hk.symm) hsrc (by rw[hyl];omega) (fun v hv=>by
             obtain⟨q, -,hq⟩:=List.mem_flatMap.1 hv
             exact h1 q v hq)
           rw[hk]at hr
           have hk':Ce (fun k=>k=g') w (w.setRow g' (cur.toList.take off'++(ys.take k).flatMap cells++cur.toList.drop (off'+((ys.take k).flatMap cells).length)).toArray) :=
             ⟨rfl,rfl,rfl,by simp[World.setRow],fun k _ hkg=>setRow_other w g' k _ hkg⟩
           have hyt:(ys.take k).length=k:=by rw[List.length_take,hm];omega
           have hlen:(Ie xs off' (ys.take k)).length=xs.length:=Um (by rw[hyt];exact hfit)
           have hxl:(xs.flatMap cells).length=xs.length:=by rw[RZ hsz,Nat.mul_one]
           have hpf:(Ie xs off' (ys.take k)).flatMap cells=Ie (xs.flatMap cells) off' ((ys.take k).flatMap cells):=by
             have ht2:(xs.take off').flatMap cells=(xs.flatMap cells).take off':=by
               have e1:xs.flatMap cells=(xs.take off').flatMap cells++(xs.drop off').flatMap cells:=by rw[←List.flatMap_append,List.take_append_drop]
               rw[e1,List.take_left' (by rw[RZ hsz,List.length_take];omega)]
             unfold Ie
             rw[List.flatMap_append,List.flatMap_append,flat_drop hsz,ht2,hyl,hyt,Nat.mul_one]
           have ho:(w.setRow g' (cur.toList.take off'++(ys.take k).flatMap cells++cur.toList.drop (off'+((ys.take k).flatMap cells).length)).toArray).ownsRow base e' 1 (.slice (some ⟨g',0,none⟩) xs.length c0) (Ie xs off' (ys.take k)).length ((Ie xs off' (ys.take k)).flatMap cells):=by
             refine⟨by rw[RZ hsz],.inr ⟨g',c0,_,by rw[hlen],hbg,setRow_heap w g' cur _ e' _ hg,by omega,hcm, ?_, ?_⟩⟩
             · simp only[List.size_toArray,List.length_append,List.length_take,List.length_drop,Array.length_toList,hyl]
               omega
             · rw[hlen,hpf]
               rw[Nat.mul_one]at htake ⊢
               unfold Ie
               show List.take xs.length (cur.toList.take off'++(ys.take k).flatMap cells++cur.toList.drop (off'+((ys.take k).flatMap cells).length))=_
               rw[take_put (by rw[hyl];exact hfit) rfl (by rw[show cur.toList.length=cur.size from Array.length_toList];omega),htake]
           refine⟨_, ?_,by rw[←hst.mem.size];exact hk'.size, ?_⟩
           · unfold execOp
             simp only[hop,resolve,invoke,builtin,Sem.run_bind,Sem.run_pure,Result.andThen_ok,List.map_toArray,List.map_cons,List.map_nil,hy,hx,hr]
             rfl
           · exact hst.mem.growN hi rfl rfl ⟨hk'.os,hk'.tape,hk'.output,hk'.size,fun b hb hS=>hk'.block b hb (fun e1=>hS (by rw[e1];rfl))⟩ ho (MI _ _ _ _ _ _) (fun b hb=> .inl hb) (fun b hb=>(ho.lt b hb).2)
       · cases h
     · cases h
   · cases h
 · cases h
theorem QB{α:Type}(base i j k q:Nat)(xs ys:List α)(ya:Option Addr)(cells:α→List Value)(e:TypeId)(g off n0 c0 n c' m cp:Nat)(ch:Ch)(d:Option Nat)(hoff:off=j)(hk:Nat.min m n=k)(hk0:0<k)(hfit:j+k≤xs.length)(hm:ys.length=m)(hd:∀ w',ch.holds w'→PW cells 1 Any w' ⟨ya,cp,ys⟩)
   (K:∀ n',A.n≤n'→Lg P N (Ig env d (.int .i64 (k:Int))) ds { A with n:=n',σ:=A.σ.set i (BV base e 1 cells (.slice (some ⟨g,0,none⟩) n0 c0) (Ie xs j (ys.take k))) } ops (l.drop 1) s Q)
   (h:(match l with | o :: _=>(ZT P N ops env o).map (fun x=>(x,o.dst)) | []=>none)=some ((e,g,off,n,c',ya,m,cp),d):=by as_aux_lemma=>kernel_rfl) (hi:A.σ[i]? = some (BV base e 1 cells (.slice (some ⟨g,0,none⟩) n0 c0) xs):=by rfl) (hq:A.σ[q]? = some ch:=by rfl) (hsz:∀ x,(cells x).length=1:=by intro _;rfl) (h1:∀ x,(cells x).all Value.oneCell'=true:=by intro _;rfl):Lg P N env ds A ops l s Q:=by
 intro a w hst
 cases l with
 | nil=>cases h
 | cons o l =>
   simp only[Option.map_eq_some_iff]at h
   obtain⟨y,hy,h⟩:=h
   simp only[Prod.mk.injEq]at h
   obtain⟨rfl,rfl⟩:=h
   obtain⟨hw,hdst,w',hr,hsz',hs'⟩:=copyG_run (xs:=xs) (ys:=ys) hy hst hi hsz (fun x u hu=>List.all_eq_true.1 (h1 x) u hu) (hd w (hst.mem.at hq)) hm hoff hk hk0 hfit
   refine KE hw (.inl hr) ?_
   exact K _ hsz' _ _ (hst.put hs' _ hdst _)
theorem appD_run{o:Oper}{e:TypeId}{sz by':Nat}{a0 ad:Addr}{n c m cp:Nat}(h:Wv P N ops env o=some (e,sz,by',.slice (some a0) n c,ad,m,cp)){olds news:List Value}{a:Act}{w:World}(hst:St N env ds A a w)
   (hlo:olds.length=n*sz) (holds:∀ j u,olds[j]? = some u→w.cell? (a0.add j)=some u) (hl:news.length=m*sz) (h1:news.all Value.oneCell'=true) (hnews:∀ j u,news[j]? = some u→w.cell? (ad.add j)=some u) (hg:c<n+m) (h63:n+m≤maxLen) (hb:(n+m)*by'≤140737488355328) :
   Region.wanted o (yielded ops a.tmps)=true∧Oa N o.dst=true∧∃ cap' w',(execOp a.eval o).run P w = .ok (.value (.slice (some ⟨A.n,0,none⟩) (n+m) cap')) w'∧A.n≤w'.heap.size∧Sat { A with n:=w'.heap.size,σ:=A.σ++[Pq A.n e sz (.slice (some ⟨A.n,0,none⟩) (n+m) cap') (n+m) (olds++news)] } w':=by
 unfold Wv at h
 split at h
 · rename_i x y t u hop0 hw hk hd
   have hop:=Zy hop0
   split at h
   · rename_i e' ad' m' cp' htu ht hy
     split at h
     · rename_i f' hf
       split at h
       · rename_i z' hz
         split at h
         · rename_i hsz
           simp only[Option.some.injEq,Prod.mk.injEq]at h
           obtain⟨rfl,rfl,rfl,hx,rfl,rfl,rfl⟩:=h
           have htu':=Nat.eq_of_beq_eq_true htu
           subst htu'
           rw[Bool.and_eq_true]at hsz
           have hzs:=Nat.eq_of_beq_eq_true hsz.1
           refine⟨FN hw hst,hd, ?_⟩
           rw[Ir hst hk]
           have h63':((n+m':Nat):Int)≤9223372036854775807:=by simp only[maxLen]at h63;omega
           have hr:=run_append_grow (P:=P) w t o.type e' f' z' ht hf hz a0 n c olds hlo holds ad' m' cp' news hl hnews hg h63' (growslice_fits (by omega) hb)
           have hge:=grownCap_ge w (n+m') c e'
           have hcm:grownCap w (n+m') c e'≤maxLen:=grownCap_le_maxLen w (n+m') c e' h63
           have hsize:=hst.mem.size
           have hlen:(olds++news).length=(n+m')*f'.size:=by rw[List.length_append,hlo,hl,Nat.add_mul]
           have hkeep:Ce (fun _=>False) w (w.drew.alloc (.cells (olds.toArray++news.toArray++Builtin.zeroCells z'.cells (grownCap w (n+m') c e' - (n+m'))) e')) :=
             ⟨rfl,rfl,rfl,by simp,fun k hk _=>heap_alloc_old w.drew _ hk⟩
           have hown:(w.drew.alloc (.cells (olds.toArray++news.toArray++Builtin.zeroCells z'.cells (grownCap w (n+m') c e' - (n+m'))) e')).ownsRow A.n e' f'.size (.slice (some ⟨A.n,0,none⟩) (n+m') (grownCap w (n+m') c e')) (n+m') (olds++news):=by
             refine⟨hlen,.inr ⟨A.n,_,_,rfl,Nat.le_refl _,by rw[←hsize];exact heap_alloc_new w.drew _,hge,hcm, ?_, ?_⟩⟩
             · simp only[Array.size_append,List.size_toArray,size_zeroCells,hzs,hlo,hl,←Nat.add_mul]
               congr 1
               omega
             · simp only[Array.toList_append,List.append_assoc]
               rw[←List.append_assoc,←hlen]
               exact List.take_left
           refine⟨grownCap w (n+m') c e',w.drew.alloc (.cells (olds.toArray++news.toArray++Builtin.zeroCells z'.cells (grownCap w (n+m') c e' - (n+m'))) e'), ?_,by rw[←hsize];exact hkeep.size,hst.mem.XK (w0:=w) hkeep ⟨rfl,rfl,rfl,rfl, ?_, ?_, ?_, ?_⟩ ?_⟩
           · unfold execOp
             simp only[hop,resolve,invoke,builtin,Sem.run_bind,Sem.run_pure,Result.andThen_ok,List.map_toArray,List.map_cons,List.map_nil,hx,hy,hr,hsize]
           · intro d hd'
             simp only[List.mem_singleton]at hd';subst hd';exact hown
           · intro d hd' b hb'
             simp only[List.mem_singleton]at hd';subst hd'
             exact(hown.lt b hb').2
           · intro d hd'
             simp only[List.mem_singleton]at hd';subst hd';exact MI _ _ _ _ _ _
           · simp
           · intro d hd' b hb'
             simp only[List.mem_singleton]at hd';subst hd'
             exact(hown.lt b hb').1
         · cases h
       · cases h
     · cases h
   · cases h
 · cases h
theorem wo_appD{α:Type}{σC:List Ch}{late fuel:Nat}{listed:List Bool}{p:Nat}(i j:Nat)(xs ys:List α)(cells:α→List Value)(e:TypeId)(sz by' b0 n c b m cp:Nat)(cs0 cs:Array Value)(t0 t:TypeId)(fr0 fr:Nat×Nat)(r0 r1:Bool)(d:Option Nat)(cix:List Nat)(hg:Nat.blt c (n+m)=true)(hn:xs.length+ys.length=n+m)(hC:Nat.beq p late=true∨picks cix A.σ=some σC)
   (K:∀ cap' n',A.n≤n'→Wg P N (Ig env d (.slice (some ⟨A.n,0,none⟩) (n+m) cap')) ds { A with n:=n',σ:=A.σ++[BV A.n e sz cells (.slice (some ⟨A.n,0,none⟩) (n+m) cap') (xs++ys)] } ops σC late fuel (listed.set p true) s Q)
   (hp:Nat.blt p listed.length=true:=by rfl)
   (h:(match ops[p]? with | some o=>(Wv P N ops env o).map (fun x=>(x,o.dst)) | none=>none)=some ((e,sz,by',.slice (some ⟨b0,0,none⟩) n c,⟨b,0,none⟩,m,cp),d):=by as_aux_lemma=>kernel_rfl) (hi:A.σ[i]? = some (.blk b0 (.cells cs0 t0 fr0) r0):=by rfl) (hj:A.σ[j]? = some (.blk b (.cells cs t fr) r1):=by rfl)
   (hx:xs.flatMap cells=cs0.toList.take (n*sz):=by rfl) (hlx:(cs0.toList.take (n*sz)).length=n*sz:=by rfl) (hy:ys.flatMap cells=cs.toList:=by rfl) (hly:cs.toList.length=m*sz:=by rfl) (h1:cs.toList.all Value.oneCell'=true:=by rfl) (hb:(Nat.ble (n+m) 100000&&Nat.ble by' 100)=true:=by rfl):WO P N env ds A ops σC late fuel listed s Q p:=by
 intro a w hst hcl
 have hlt:p<listed.length:=by simpa using hp
 split at h
 · rename_i o ho
   simp only[Option.map_eq_some_iff]at h
   obtain⟨y,hy',h⟩:=h
   simp only[Prod.mk.injEq]at h
   obtain⟨rfl,rfl⟩:=h
   rw[Bool.and_eq_true]at hb
   have hb1:=Nat.le_of_ble_eq_true hb.1
   have hb2:=Nat.le_of_ble_eq_true hb.2
   have hmul:(n+m)*by'≤100000*100:=Nat.mul_le_mul hb1 hb2
   obtain⟨hw,hd,cap',w',hr,hsz,hs'⟩:=appD_run hy' hst hlx (fun q u hq=>by
     refine Wj hst.mem hi (news:=cs0.toList) rfl q u ?_
     have hlt:=(List.getElem?_eq_some_iff.1 hq).1
     rw[hlx]at hlt
     rw[List.getElem?_take,if_pos hlt]at hq;exact hq) hly h1 (Wj hst.mem hj rfl) (by simpa using hg) (by simp only[maxLen];omega) (by omega)
   have e1:Pq A.n e sz (.slice (some ⟨A.n,0,none⟩) (n+m) cap') (n+m) (cs0.toList.take (n*sz)++cs.toList)=BV A.n e sz cells (.slice (some ⟨A.n,0,none⟩) (n+m) cap') (xs++ys):=by
     unfold BV;rw[List.flatMap_append,hx,hy,List.length_append,hn]
   rw[e1]at hs'
   unfold wpOp
   simp only[ho]
   rw[if_pos hw]
   left
   unfold Oper.wp
   rw[hr]
   have hcs:(listed.set p true).toArray.getD late false=false→Cs σC w':=by
     intro hl
     rcases hC with hC | hC
     · have:=Nat.eq_of_beq_eq_true hC
       subst this
       simp[hlt]at hl
     · intro c hc
       obtain⟨q,hq,hqs⟩:=LX hC c hc
       exact hs'.all c (List.mem_append_left _ (List.mem_of_getElem? hqs))
   exact⟨hcs,K cap' _ hsz _ _ (hst.put hs' _ hd _) hcl hcs⟩
 · cases h
theorem l_copyB{α:Type}(i k q:Nat)(ys:List α)(ya:Option Addr)(cells:α→List Value)(e:TypeId)(b n c' m cp:Nat)(t:TypeId)(cs cs':Array Value)(ch:Ch)(d:Option Nat)(hk:Nat.min m n=k)(hk0:0<k)(hm:ys.length=m)(hd:∀ w',ch.holds w'→PW cells 1 Any w' ⟨ya,cp,ys⟩)
   (K:Lg P N (Ig env d (.int .i64 (k:Int))) ds { A with σ:=A.σ.set i (.blk b (.cells cs' t (0,0)) true) } ops (l.drop 1) s Q)
   (hcs:cs'.toList=(ys.take k).flatMap cells++cs.toList.drop k:=by rfl) (hle:Nat.ble k cs.size=true:=by rfl) (h:(match l with | o :: _=>(ZT P N ops env o).map (fun x=>(x,o.dst)) | []=>none)=some ((e,b,0,n,c',ya,m,cp),d):=by as_aux_lemma=>kernel_rfl) (hi:A.σ[i]? = some (.blk b (.cells cs t (0,0)) true):=by rfl) (hq:A.σ[q]? = some ch:=by rfl) (hsz:∀ x,(cells x).length=1:=by intro _;rfl) (h1:∀ x,(cells x).all Value.oneCell'=true:=by intro _;rfl):Lg P N env ds A ops l s Q:=by
 intro a w hst
 cases l with
 | nil=>cases h
 | cons o l =>
   simp only[Option.map_eq_some_iff]at h
   obtain⟨y,hy,h⟩:=h
   simp only[Prod.mk.injEq]at h
   obtain⟨rfl,rfl⟩:=h
   unfold ZT at hy
   split at hy
   · rename_i x y t' u hop0 hw hkn hd0
     have hop:=YS hop0
     split at hy
     · rename_i e' g' off' n' c2 ya' m' cp' ht hx hyv
       split at hy
       · rename_i f' hf
         split at hy
         · rename_i hf1
           simp only[Option.some.injEq,Prod.mk.injEq]at hy
           obtain⟨rfl,rfl,rfl,rfl,rfl,rfl,rfl,rfl⟩:=hy
           have hf1':=Nat.eq_of_beq_eq_true hf1
           have hinfo:(P.info? e').map (·.size)=some 1:=by rw[hf];simp[hf1']
           have hkm:k≤m':=by rw[←hk];exact Nat.min_le_left _ _
           have hne:ys≠[]:=fun e1=>by subst e1;simp at hm;omega
           have hd':=hd w (hst.mem.at hq)
           obtain⟨b',boff,ha, -,hcl⟩:=hd'.cells hne
           simp only at ha
           subst ha
           have hg:w.heap[g']? = some (.cells cs t (0,0)):=hst.mem.at hi
           have hyl:((ys.take k).flatMap cells).length=k:=by rw[RZ hsz,List.length_take,hm,Nat.mul_one];omega
           have hsrc:∀ q v,((ys.take k).flatMap cells)[q]? = some v→w.cell? ((⟨b',boff,none⟩:Addr).add q)=some v:=by
             intro q v hq
             refine sl_news hsz hd' rfl q v ?_
             have e1:ys.flatMap cells=(ys.take k).flatMap cells++(ys.drop k).flatMap cells:=by rw[←List.flatMap_append,List.take_append_drop]
             show(ys.flatMap cells)[q]? = some v
             rw[e1,List.getElem?_append_left (List.getElem?_eq_some_iff.1 hq).1];exact hq
           have hr:=YQ (P:=P) w t' u o.type e' g' 0 n' c2 1 ⟨b',boff,none⟩ m' cp' cs t ((ys.take k).flatMap cells) ht hinfo hg (by rw[hyl,Nat.mul_one];exact hk.symm) hsrc (by rw[hyl];have:=Nat.le_of_ble_eq_true hle;omega) (fun v hv=>by
             obtain⟨q, -,hq⟩:=List.mem_flatMap.1 hv
             exact List.all_eq_true.1 (h1 q) v hq)
           rw[hk]at hr
           have hcs2:(cs.toList.take 0++(ys.take k).flatMap cells++cs.toList.drop (0+((ys.take k).flatMap cells).length)).toArray=cs':=by
             apply Array.ext'
             rw[hcs,hyl];simp
           rw[hcs2]at hr
           have hr':(execOp a.eval o).run P w = .ok (.value (.int .i64 (k:Int))) (w.setRow g' cs'):=by
             rw[Ir hst hkn]
             unfold execOp
             simp only[hop,resolve,invoke,builtin,Sem.run_bind,Sem.run_pure,Result.andThen_ok,List.map_toArray,List.map_cons,List.map_nil,hyv,hx,hr]
             rfl
           refine KE (FN hw hst) (.inl hr') ?_
           refine K _ _ (hst.put ?_ _ hd0 _)
           exact hst.mem.put hi rfl rfl (Ch.RS _ _ _) rfl rfl rfl (by simp[World.setRow]) (fun k hkk=>setRow_other w g' k _ hkk) (setRow_heap w g' cs cs' t (0,0) hg)
         · cases hy
       · cases hy
     · cases hy
   · cases hy
end
end Go.Proofs.YtlccogilgegnfaaDoor.Eng
namespace Go.Proofs.YtlccogilgegnfaaDoor.Hx
open Go Go.Proofs.YtlccogilgegnfaaDoor.Eng Go.Proofs.YtlccogilgegnfaaDoor.Mem Go.Proofs.YtlccogilgegnfaaDoor.Ly Go.Proofs.YtlccogilgegnfaaDoor.Ad
set_option linter.unusedSimpArgs false
set_option linter.unusedVariables false
set_option maxRecDepth 100000
structure Iw where
 lk:Int
 sv:Int
 st:Int
 rt:Int
 tb:Value
 en:Int
 mo:Int
 ou:Int
 fa:Nat
 fb:Nat
 ca:Array Value
instance:Inhabited Iw:=⟨⟨0,0,0,0,.slice none 0 0,0,0,0,0,0,#[]⟩⟩
def Iw.cells(x:Iw):List Value:=[.int .i64 x.lk,.int .i64 x.sv,.int .i64 x.st,.int .i64 x.rt,x.tb,.int .u32 x.en,.int .u32 x.mo,.int .u32 x.ou,.func (.func x.fa) #[] x.ca,.func (.func x.fb) #[] x.ca]
abbrev Iw.arr(x:Iw):Array Value:= #[.int .i64 x.lk,.int .i64 x.sv,.int .i64 x.st,.int .i64 x.rt,x.tb,.int .u32 x.en,.int .u32 x.mo,.int .u32 x.ou,.func (.func x.fa) #[] x.ca,.func (.func x.fb) #[] x.ca]
def X7(fa fb:Nat)(ca:Array Value)(q:Aq)(b:Nat):Prop:=(q.Dx=0∧fa=50∧fb=51∧ca = #[])∨(q.Dx≠0∧fa=52∧fb=53∧ca = #[.pointer (some ⟨b,0,none⟩)])
def CareAt(w:World)(B:Nat→Prop)(fa fb:Nat)(ca:Array Value)(q:Aq):Prop:=∃ b,B b∧X7 fa fb ca q b∧w.heap[b]? = some (.cells q.arr 35 (0,0))
def Cm(B:List Nat)(WS:List Iw)(QS:List Aq):Ch:= .inv (fun b=>b∈B) (fun w=>∀ j,j<WS.length→CareAt w (fun b=>b∈B) (gd WS j).fa (gd WS j).fb (gd WS j).ca (gd QS j)) true
theorem YL(B:List Nat)(WS:List Iw)(QS:List Aq):(Cm B WS QS).stable:=fun w w' h hw j hj=>by
 obtain⟨b,hb,hc,hh⟩:=hw j hj
 exact⟨b,hb,hc,(h b hb).trans hh⟩
theorem merge{A:AW}{w:World}(h:Sat A w)(i j:Nat)(is:List Nat){ci cj c':Ch}{kept:List Ch}(hi:A.σ[i]? = some ci)(hj:A.σ[j]? = some cj)(hri:ci.rw=true)(hrj:cj.rw=true)(hF:∀ b,c'.F b→ci.F b∨cj.F b)(hh:c'.holds w)(hst:c'.stable)(hnd:nodupB is=true)(hni:is.contains i=false)(hnj:is.contains j=false)(hp:picks is A.σ=some kept):Sat { A with σ:=kept++[c'] } w:=by
 have:=h.exch is hnd hp (Ce.refl (fun _=>False) w) (fun _ _ _ _ x=>x) [c'] (by
  intro d hd
  simp only[List.mem_singleton]at hd
  subst hd
  refine⟨hh,hst,fun b hb => ?_⟩
  rw[h.size]
  rcases hF b hb with hb | hb
  ·exact h.bnd _ (List.mem_of_getElem? hi) b hb
  ·exact h.bnd _ (List.mem_of_getElem? hj) b hb) (by simp) (by
  intro d hd d' hd' _ b hb
  simp only[List.mem_singleton]at hd'
  subst hd'
  obtain⟨q,hq,hqs⟩:=LX hp d hd
  intro hb'
  rcases hF b hb' with hb' | hb'
  ·exact KH h.Jq (i:=i) (j:=q) (by rw[List.getElem?_map,hi];rfl) (by rw[List.getElem?_map,hqs];rfl) (fun e=>by subst e;simp[hq]at hni) hri b hb' hb
  exact KH h.Jq (i:=j) (j:=q) (by rw[List.getElem?_map,hj];rfl) (by rw[List.getElem?_map,hqs];rfl) (fun e=>by subst e;simp[hq]at hnj) hrj b hb' hb)
 rw[h.size]at this
 exact this
theorem gd_snoc{α:Type}[Inhabited α]{xs:List α}{y:α}:gd (xs++[y]) xs.length=y:=by
 rw[EW (by simp)];simp
theorem WM{α:Type}[Inhabited α]{xs:List α}{y:α}{j:Nat}(h:j<xs.length):gd (xs++[y]) j=gd xs j:=by
 rw[EW (by rw[List.length_append];omega),EW h,List.getElem_append_left h]
theorem e_care{P:Program}{N:Nat}{env:Env}{ds:List Deferred}{A:AW}{s:List Kt}{Q:Exit→Act→World→Prop}{x:Exit}(i j:Nat)(is B:List Nat)(WS:List Iw)(QS:List Aq)(b n:Nat)(y:Iw)(q:Aq)(kept:List Ch)(hn:WS.length=n)(hq:gd QS n=q)(hc:X7 y.fa y.fb y.ca q b)
   (K:E P N env ds { A with σ:=kept++[Cm (B++[b]) (WS++[y]) QS] } x s Q) (hi:A.σ[i]? = some (Cm B WS QS):=by rfl) (hj:A.σ[j]? = some (.blk b (.cells q.arr 35 (0,0)) true):=by rfl) (hnd:nodupB is=true:=by rfl) (hni:is.contains i=false:=by rfl) (hnj:is.contains j=false:=by rfl) (hp:picks is A.σ=some kept:=by rfl):E P N env ds A x s Q:=by
 intro a' w hst
 refine K a' w ⟨hst.sz,hst.df,hst.kn,merge hst.mem i j is hi hj rfl rfl (fun k hk => ?_) ?_ (YL _ _ _) hnd hni hnj hp⟩
 · rcases List.mem_append.1 hk with hk | hk
   · exact .inl hk
   · exact .inr (List.mem_singleton.1 hk)
 · intro k hk
   have h1:=hst.mem.at hi
   have h2:w.heap[b]? = some (.cells q.arr 35 (0,0)):=hst.mem.at hj
   rcases Nat.lt_or_ge k WS.length with hl | hl
   · rw[WM hl]
     obtain⟨b',hb',hc',hh'⟩:=h1 k hl
     exact⟨b',List.mem_append_left _ hb',hc',hh'⟩
   · obtain rfl:k=WS.length:=by simp at hk;omega
     rw[gd_snoc,hn,hq]
     exact⟨b,by simp,hc,h2⟩
theorem g_care0{P:Program}{N:Nat}{env:Env}{ds:List Deferred}{A:AW}{s:List Kt}{Q:Exit→Act→World→Prop}{c:Code}(QS:List Aq)(K:G P N env ds { A with σ:=A.σ++[Cm [] [] QS] } c s Q):G P N env ds A c s Q :=
 fun a w hst=>K a w ⟨hst.sz,hst.df,hst.kn,hst.mem.more _ (fun j hj=>absurd hj (Nat.not_lt_zero j)) (YL _ _ _) (fun b h=>by cases h)⟩
def IQ(q:Aq)(n:Int):Bool:=decide (q.Dx≠0∧n<q.A7)
theorem again0_calls(w:World)(n:Int):Calls Tryd.prog 50 #[.int .u32 n] w fun e w'=>e = .returned (.bool false)∧Ce (fun _=>False) w w':=by
 obtain⟨z,hz⟩:∃ z,z=w.heap.size:=⟨_,rfl⟩
 refine Bf (args:=[.int .u32 n]) 3 ⟨w,z,[(Ak w)]⟩ Tryd.func50 rfl (by kernel_rfl) (by kernel_rfl) (Ed hz) ?_
 refine Di [0] [(0,.int .u32 n)] ?_
 refine Au 9 0 [] [[o0],[o0]] [] [(2,.bool false)] rfl Ae ?_
 refine Az [] [] (.bool false) Ae ?_
 intro w1 hw1
 exact⟨rfl,AB hw1⟩
theorem begin0_calls(w:World)  : Calls Tryd.prog 51 #[] w fun e w'=>e = .returned (.int .i64 0)∧Ce (fun _=>False) w w':=by
 obtain⟨z,hz⟩:∃ z,z=w.heap.size:=⟨_,rfl⟩
 refine Bf (args:=[]) 1 ⟨w,z,[(Ak w)]⟩ Tryd.func51 rfl (by kernel_rfl) (by kernel_rfl) (Ed hz) ?_
 refine Di [] [] ?_
 refine Au 9 0 [] [[o0],[o0]] [] [(0,i6 0)] rfl Ae ?_
 refine Az [] [] (i6 0) Ae ?_
 intro w1 hw1
 exact⟨rfl,AB hw1⟩
theorem again1_calls(w:World)(b:Nat)(q:Aq)(hb:∀ (k:Nat) (v:Value),q.cells[k]? = some v→w.cell? ⟨b,0+k,none⟩=some v)(n:Int)(h0:0≤n)(h1:n<4294967296):Calls Tryd.prog 52 #[.int .u32 n,.pointer (some ⟨b,0,none⟩)] w fun e w'=>e = .returned (.bool (decide (n<q.A7)))∧Ce (fun _=>False) w w':=by
 obtain⟨z,hz⟩:∃ z,z=w.heap.size:=⟨_,rfl⟩
 refine Bf (args:=[.int .u32 n,pt b]) 9 ⟨w,z,[(Ak w)]⟩ Tryd.func52 rfl (by kernel_rfl) (by kernel_rfl) (Ed hz) ?_
 refine Di [0,1] [(0,.int .u32 n),(1,pt b)] ?_
 refine Au 5 0 [] [[o0]] [] [(0,.int .u32 n),(1,pt b)] rfl Ae ?_
 by_cases h1:(n:Int)<q.A7
 ·refine Au 4 0 [] [[o0,(ov (i6 n)),o0,(oa [.via 0 (i6 q.A7)]),oT,o0]] [Wr (n) (n),Old w b 3 (i6 q.A7),BT ((n:Int)<q.A7)] [(3,.bool true)] rfl ⟨BP rfl,Aw (hb 3 _ rfl),bt,Ae⟩ ?_
  refine Az [] [] (.bool true) Ae ?_
  intro w2 hw2
  exact⟨by rw[decide_eq_true h1],AB hw2⟩
 refine Au 4 0 [] [[o0,(ov (i6 n)),o0,(oa [.via 0 (i6 q.A7)]),oF,o0]] [Wr (n) (n),Old w b 3 (i6 q.A7),BF ((n:Int)<q.A7)] [(3,.bool false)] rfl ⟨BP rfl,Aw (hb 3 _ rfl),bf,Ae⟩ ?_
 refine Az [] [] (.bool false) Ae ?_
 intro w3 hw3
 exact⟨by rw[decide_eq_false h1],AB hw3⟩
theorem begin1_calls(w:World)(b:Nat)(q:Aq)(hb:∀ (k:Nat) (v:Value),q.cells[k]? = some v→w.cell? ⟨b,0+k,none⟩=some v):Calls Tryd.prog 53 #[.pointer (some ⟨b,0,none⟩)] w fun e w'=>e = .returned (.int .i64 q.Dx)∧Ce (fun _=>False) w w':=by
 obtain⟨z,hz⟩:∃ z,z=w.heap.size:=⟨_,rfl⟩
 refine Bf (args:=[pt b]) 4 ⟨w,z,[(Ak w)]⟩ Tryd.func53 rfl (by kernel_rfl) (by kernel_rfl) (Ed hz) ?_
 refine Di [0] [(0,pt b)] ?_
 refine Au 9 0 [] [[o0],[o0,(oa [.via 0 (i6 q.Dx)]),o0]] [Old w b 2 (i6 q.Dx)] [(1,i6 q.Dx)] rfl ⟨Aw (hb 2 _ rfl),Ae⟩ ?_
 refine Az [] [] (i6 q.Dx) Ae ?_
 intro w1 hw1
 exact⟨rfl,AB hw1⟩
theorem ZC{w:World}{b:Nat}{q:Aq}(h:w.heap[b]? = some (.cells q.arr 35 (0,0))):∀ (k:Nat) (v:Value),q.cells[k]? = some v→w.cell? ⟨b,0+k,none⟩=some v:=by
 intro k v hk
 have e:q.cells=q.arr.toList:=rfl
 rw[e]at hk
 simp[World.cell?,h]at hk ⊢
 exact hk
theorem ZaJ(w:World)(q:Aq)(n:Int)(ha:q.Dx=0):Calls Tryd.prog 50 #[.int .u32 n] w fun e w'=>e = .returned (.bool (IQ q n))∧Ce (fun _=>False) w w':=by
 have e:IQ q n=false:=decide_eq_false (fun x=>x.1 ha)
 rw[e]
 exact again0_calls w n
theorem Zag(w:World)(b:Nat)(q:Aq)(n:Int)(hb:w.heap[b]? = some (.cells q.arr 35 (0,0)))(ha:q.Dx≠0)(h0:0≤n)(h1:n<4294967296):Calls Tryd.prog 52 #[.int .u32 n,.pointer (some ⟨b,0,none⟩)] w fun e w'=>e = .returned (.bool (IQ q n))∧Ce (fun _=>False) w w':=by
 have e:IQ q n=decide (n<q.A7):=by unfold IQ;by_cases hn:n<q.A7 <;> simp[ha,hn]
 rw[e]
 exact again1_calls w b q (ZC hb) n h0 h1
theorem begin_0(w:World)(q:Aq)(ha:q.Dx=0):Calls Tryd.prog 51 #[] w fun e w'=>e = .returned (.int .i64 q.Dx)∧Ce (fun _=>False) w w':=by
 rw[ha]
 exact begin0_calls w
theorem begin_1(w:World)(b:Nat)(q:Aq)(hb:w.heap[b]? = some (.cells q.arr 35 (0,0))):Calls Tryd.prog 53 #[.pointer (some ⟨b,0,none⟩)] w fun e w'=>e = .returned (.int .i64 q.Dx)∧Ce (fun _=>False) w w':=begin1_calls w b q (ZC hb)
theorem careof_calls(w:World)(q:Aq):Calls Tryd.prog 31 #[.agg q.arr] w fun e w'=>∃ b fa fb ca w0,e = .returned (.agg #[.func (.func fa) #[] ca,.func (.func fb) #[] ca])∧X7 fa fb ca q b∧w.heap.size≤b∧Sat ⟨w0,w'.heap.size,[.blk b (.cells q.arr 35 (0,0)) true]⟩ w'∧Ce (fun _=>False) w w':=by
 obtain⟨z,hz⟩:∃ z,z=w.heap.size:=⟨_,rfl⟩
 refine Bf (args:=[.agg q.arr]) 10 ⟨w,z,[(Ak w)]⟩ Tryd.func31 rfl (by kernel_rfl) (by kernel_rfl) (Ed hz) ?_
 refine Di [0] [(0,.agg q.arr)] ?_
 refine q_c 6 0 [] [[o0,o0]] [] [(1,pt z),(2,pt (z+1))] ⟨w,z+2,[(Ak w),(.blk z (.cells q.arr 35 (0,0)) true),(bk (z+1) #[.nilFunc,.nilFunc] 79)]⟩ rfl Ae ?_
 by_cases h1:(q.Dx:Int)=0
 ·refine q_c 9 0 [1] [[o0,(a1 1),oT],[o0,(an 2 2)]] [Qb z,ET q.Dx 0,Qb (z+1),Qb (z+1)] [(2,pt (z+1))] ⟨w,z+2,[(Ak w),(.blk z (.cells q.arr 35 (0,0)) true),(bk (z+1) #[.func (.func 50) #[] #[],.func (.func 51) #[] #[]] 79)]⟩ rfl ⟨rfl,et,rfl,rfl,Ae⟩ ?_
  refine Az [.at 2,.at 2] [Qb (z+1),Qb (z+1)] (.agg #[.func (.func 50) #[] #[],.func (.func 51) #[] #[]]) ⟨rfl,rfl,Ae⟩ ?_
  intro w2 hw2
  have h4:=hw2.pick [1] rfl rfl
  skip
  exact⟨z,_,_,_,w,rfl,.inl ⟨h1,rfl,rfl,rfl⟩,(show w.heap.size≤z by omega),by rw[hw2.size];exact h4,AB hw2⟩
 refine q_c 11 0 [0] [[o0,(a1 1),oF],[o0,o0,o0,(an 2 2)]] [Qb z,EF q.Dx 0,Qb (z+1),Qb (z+1)] [(2,pt (z+1))] ⟨w,z+2,[(Ak w),(.blk z (.cells q.arr 35 (0,0)) true),(bk (z+1) #[.func (.func 52) #[] #[pt z],.func (.func 53) #[] #[pt z]] 79)]⟩ rfl ⟨rfl,ef,rfl,rfl,Ae⟩ ?_
 refine Az [.at 2,.at 2] [Qb (z+1),Qb (z+1)] (.agg #[.func (.func 52) #[] #[pt z],.func (.func 53) #[] #[pt z]]) ⟨rfl,rfl,Ae⟩ ?_
 intro w3 hw3
 have h4:=hw3.pick [1] rfl rfl
 skip
 exact⟨z,_,_,_,w,rfl,.inr ⟨h1,rfl,rfl,rfl⟩,(show w.heap.size≤z by omega),by rw[hw3.size];exact h4,AB hw3⟩
end Go.Proofs.YtlccogilgegnfaaDoor.Hx
namespace Go.Proofs.YtlccogilgegnfaaDoor.Ad
open Go Go.Proofs.YtlccogilgegnfaaDoor.Eng Go.Proofs.YtlccogilgegnfaaDoor.Mem Go.Proofs.YtlccogilgegnfaaDoor.Ly
set_option linter.unusedSimpArgs false
set_option linter.unusedVariables false
set_option maxRecDepth 100000
def TF(x:Am):Prop:=x=AQ∨((400≤x.e∧x.e≤423) ∧ -1≤x.Ag.First ∧ -1≤x.Ag.Second)
theorem Wn:TF AQ:= .inl rfl
theorem WU{e a b:Int}(h:400≤e∧e≤423)(ha : -1≤a)(hb : -1≤b):TF ⟨e,⟨a,b⟩⟩:= .inr ⟨h,ha,hb⟩
theorem Qx{b:Bool}{e x y:Int}(h:400≤e∧e≤423)(ha : -1≤x)(hb : -1≤y):TF (Af b e ⟨x,y⟩):=by
 cases b
 ·exact WU h ha hb
 exact Wn
theorem Sj:∀ {l:List Am},(∀ x∈l,TF x)→TF (AY l)
 | [],_=>Wn
 | x :: r,h=>by
  unfold AY
  by_cases e:x=AQ
  ·rw[if_pos e];exact Sj fun y hy=>h y (List.mem_cons_of_mem _ hy)
  rw[if_neg e];exact h x (List.mem_cons_self ..)
theorem Zi{o:Am}{f:Nat→Am}{n:Nat}(ho:TF o)(hf:∀ i,TF (f i)):TF (Fv o f n):=by
 unfold Fv
 refine Sj fun x hx => ?_
 rcases List.mem_cons.1 hx with rfl | hx
 ·exact ho
 obtain⟨i, -,rfl⟩:=List.mem_map.1 hx;exact hf i
section
variable (c:Ai)
theorem Zm(p:Nat):TF (CP c p):=by
 have hr:∀ k,TF (EK c p k):=by
  intro k
  unfold EK
  split
  ·exact WU (by decide) (by omega) (by omega)
  split
  ·exact WU (by decide) (by omega) (by omega)
  split
  ·exact WU (by decide) (by omega) (by omega)
  exact Wn
 have hA:TF (Jd c p):=Zi (Sj fun x hx=>by
  simp only[Gw,List.mem_cons,List.not_mem_nil,or_false]at hx
  rcases hx with rfl | rfl | rfl | rfl <;> exact Qx (by decide) (by omega) (by omega)) hr
 unfold CP
 split
 ·exact Zi (Sj fun x hx=>by
   simp only[H8,List.mem_cons,List.not_mem_nil,or_false]at hx
   rcases hx with rfl | rfl <;> exact Qx (by decide) (by omega) (by omega)) (fun k=>Qx (by decide) (by omega) (by omega))
 exact hA
theorem WA(h:Nat):TF (Dp c h):=Sj fun x hx=>by
 simp only[List.mem_cons,List.not_mem_nil,or_false]at hx
 rcases hx with rfl | rfl | rfl <;> exact Qx (by decide) (by omega) (by omega)
theorem Zj(k:Nat):TF (Ea c k):=by
 have hw:∀ n,TF (F6 c k n):=fun n=>Sj fun x hx=>by
  simp only[Nk,List.mem_cons,List.not_mem_nil,or_false]at hx
  rcases hx with rfl | rfl | rfl <;> exact Qx (by decide) (by omega) (by omega)
 unfold Ea
 split
 ·exact WU (by decide) (by omega) (by omega)
 split
 ·exact Qx (by decide) (by omega) (by omega)
 exact Zi Wn hw
theorem okf_check:TF (Ff c):=Sj fun x hx=>by
 simp only[answers,List.mem_append,List.mem_cons,List.not_mem_nil,or_false,List.mem_map,List.mem_range]at hx
 rcases hx with(((hx | ⟨p, -,rfl⟩) | ⟨p, -,rfl⟩) | ⟨p, -,rfl⟩) | rfl
 ·rcases hx with rfl | rfl | rfl | rfl | rfl <;> exact Qx (by decide) (by decide) (by decide)
 ·exact Zm c p
 ·exact WA c p
 ·exact Zj c p
 exact Qx (by decide) (by decide) (by decide)
variable {c}
theorem ZY(h:(Ff c).e=0):Ff c=AQ:=by
 rcases okf_check c with e | e
 ·exact e
 omega
theorem YJ:∀ {l:List Am},AY l=AQ→∀ k,k<l.length→gd l k=AQ:=fun h k hk=>by
 rw[EW hk];exact LQ h _ (List.getElem_mem _)
structure Good(c:Ai):Prop where
 fr:1≤c.Frames∧c.Frames≤1024
 mj:1≤c.Gg∧c.Gg≤16384
 cn:1≤c.Bc.xs.length∧c.Bc.xs.length≤4
 pn:c.Aa.xs.length≤8
 hn:c.Aj.xs.length≤16
 reg:∀ p k,p<c.Aa.xs.length→k<(gd c.Aa.xs p).Ah.xs.length→1≤(DV c p k).AO∧0≤(DV c p k).Frame∧(DV c p k).Frame+(DV c p k).AO≤c.Frames
 apart:∀ p k q n,p<c.Aa.xs.length→k<(gd c.Aa.xs p).Ah.xs.length→q≤p→n<(gd c.Aa.xs q).Ah.xs.length→(q<p∨n<k)→(DV c p k).Frame+(DV c p k).AO≤(DV c q n).Frame∨(DV c q n).Frame+(DV c q n).AO≤(DV c p k).Frame
 rn:∀ p,p<c.Aa.xs.length→(gd c.Aa.xs p).Ah.xs.length≤8
 qn:∀ p,p<c.Aa.xs.length→(gd c.Aa.xs p).Ap.xs.length≤8
 port:∀ p k,p<c.Aa.xs.length→k<(gd c.Aa.xs p).Ap.xs.length→0≤(Zk c p k).Channel∧(Zk c p k).Channel<(c.Aj.xs.length:Int)
 src:∀ h,h<c.Aj.xs.length→IP c h=1
 dst:∀ h,h<c.Aj.xs.length→1≤Bz c h∧Bz c h≤4
 wn:∀ k,k<c.Bc.xs.length→(gd c.Bc.xs k).xs.length≤16
 win:∀ k n,k<c.Bc.xs.length→n<(gd c.Bc.xs k).xs.length→(-1≤(gd (DU c k).xs n).Partition∧(gd (DU c k).xs n).Partition<(c.Aa.xs.length:Int))∧(1≤(gd (DU c k).xs n).BN∧(gd (DU c k).xs n).BN≤16384)∧(82≤(gd (DU c k).xs n).AX∧(gd (DU c k).xs n).AX≤16384)
 split:∀ k n,k<c.Bc.xs.length→n<(gd c.Bc.xs k).xs.length→Ip c k (gd (DU c k).xs n).Partition=false
 sum:∀ k,k<c.Bc.xs.length→sumW (DU c k).xs (DU c k).xs.length=c.Gg
 kern:(0≤c.Kernel∧c.Kernel≤c.Frames - 1)∧(1≤c.Room∧c.Room≤c.Frames - c.Kernel)
 own:∀ q n,q<c.Aa.xs.length→n<(gd c.Aa.xs q).Ah.xs.length→(DV c q n).Frame+(DV c q n).AO≤c.Kernel∨c.Kernel+c.Room≤(DV c q n).Frame
 err:errOf c=0
 need:1≤JC c∧JC c≤c.Room
theorem meet_no{a m b o:Int}(h:meet a m b o=false):b+o≤a∨a+m≤b:=by
 unfold meet at h
 simp only[Bool.and_eq_false_iff,decide_eq_false_iff_not]at h
 omega
theorem VM{p:Nat→Bool}{n:Nat}(h:(List.range n).any p=false){k:Nat}(hk:k<n):p k=false:=by
 rw[List.any_eq_false]at h
 have:=h k (List.mem_range.2 hk)
 simpa using this
theorem tAt_low(h:Fine c):∀ i,c.Kernel+1≤Ec c i
 | 0=>by
  have h1:=QW h _ (Nat.le_refl _)
  unfold CV at h1
  rw[tAt_zero];omega
 | i+1=>by
  have:=tAt_low h i
  rw[RV];omega
theorem need_pos(h:errOf c=0):1≤JC c:=by
 have hok:Ep c=true:=by
  cases e:Ep c with
  | true=>rfl
  | false=>unfold errOf at h;rw[e]at h;exact absurd h (by decide)
 unfold JC
 rw[if_pos hok]
 have hf:=Sz hok
 have h1:=tAt_low hf c.Aa.xs.length
 omega
theorem Y5(h:Ff c=AQ):Good c:=by
 have ha:∀ i,i<(answers c).length→gd (answers c) i=AQ:=YJ h
 have hl:=GM (c:=c)
 have g0:=ha 0 (by omega);have g1:=ha 1 (by omega);have g2:=ha 2 (by omega);have g3:=ha 3 (by omega);have g4:=ha 4 (by omega)
 rw[VB (by decide)]at g0 g1 g2 g3 g4
 have w0:=Dz ((Ho (by decide)).1 (show Af (win c.Frames 1 1024) 400 ⟨-1, -1⟩=AQ from g0))
 have w1:=Dz ((Ho (by decide)).1 (show Af (win c.Gg 1 16384) 401 ⟨-1, -1⟩=AQ from g1))
 have w2:=Dz ((Ho (by decide)).1 (show Af (win (c.Bc.xs.length:Int) 1 4) 402 ⟨-1, -1⟩=AQ from g2))
 have w3:=Dz ((Ho (by decide)).1 (show Af (win (c.Aa.xs.length:Int) 1 8) 403 ⟨-1, -1⟩=AQ from g3))
 have w4:=of_decide_eq_true ((Ho (by decide)).1 (show Af (decide ((c.Aj.xs.length:Int)≤16)) 404 ⟨-1, -1⟩=AQ from g4))
 have hp:∀ p,p<c.Aa.xs.length→CP c p=AQ:=fun p hp=>by rw[←Wp hp];exact ha _ (by omega)
 have hh:∀ k,k<c.Aj.xs.length→Dp c k=AQ:=fun p hp=>by rw[←ZO hp];exact ha _ (by omega)
 have hk:∀ k,k<c.Bc.xs.length→Ea c k=AQ:=fun p hp=>by rw[←ZG hp];exact ha _ (by omega)
 have he:I4 c=AQ:=by rw[←ZL (c:=c)];exact ha _ (by omega)
 have hB:∀ p,p<c.Aa.xs.length→∀ k,k<(Es c p).Ah.xs.length→EK c p k=AQ:=fun p hp'=>(MJ (O9 (hp p hp'))).2
 have hreg:∀ p k,p<c.Aa.xs.length→k<(gd c.Aa.xs p).Ah.xs.length→J3 c (DV c p k)=true∧(List.range k).any (Qv c p k)=false∧(List.range (p+1)).any (Zf c p k)=false:=by
  intro p k h1 h2
  have e:=hB p h1 k h2
  have e1:=UX e
  by_cases e2:(List.range k).any (Qv c p k)=true
  ·rw[regQ_b e1 e2]at e;exact absurd (congrArg Am.e e) (by decide:¬ (410:Int)=0)
  have e2':(List.range k).any (Qv c p k)=false:=by simpa using e2
  by_cases e3:(List.range (p+1)).any (Zf c p k)=true
  ·rw[WP e1 e2' e3]at e;exact absurd (congrArg Am.e e) (by decide:¬ (411:Int)=0)
  exact⟨e1,e2',by simpa using e3⟩
 have hPE:∀ p,p<c.Aa.xs.length→_:=fun p hp'=>MJ (YB (hp p hp'))
 have hkb:=(Ho (by decide)).1 (show Af (F9 c) 423 ⟨-1, -1⟩=AQ from he)
 unfold F9 at hkb
 simp only[Bool.and_eq_true,Bool.not_eq_true',decide_eq_true_eq]at hkb
 obtain⟨⟨⟨k1,k2⟩,k3⟩,k4,k5⟩:=hkb
 have hcore:∀ k,k<c.Bc.xs.length→win ((DU c k).xs.length:Nat) 1 16=true∧Fv AQ (F6 c k) (DU c k).xs.length=AQ∧sumW (DU c k).xs (DU c k).xs.length=c.Gg:=by
  intro k hk'
  have e:=hk k hk'
  unfold Ea at e
  by_cases e1:win ((DU c k).xs.length:Nat) 1 16=false
  ·rw[if_pos e1]at e;exact absurd (congrArg Am.e e) (by decide:¬ (418:Int)=0)
  rw[if_neg e1]at e
  by_cases e2:Fv AQ (F6 c k) (DU c k).xs.length=AQ
  ·rw[if_pos e2,Ho (by decide)]at e
   exact⟨by simpa using e1,e2,of_decide_eq_true e⟩
  rw[if_neg e2]at e;exact absurd e e2
 have hcw:∀ k n,k<c.Bc.xs.length→n<(gd c.Bc.xs k).xs.length→F6 c k n=AQ:=fun k n h1 h2=>(MJ (hcore k h1).2.1).2 n h2
 refine⟨w0,w1,by omega,by omega,by omega, ?_, ?_, ?_, ?_, ?_, ?_, ?_, ?_, ?_, ?_, ?_,⟨Dz k1,Dz k2⟩, ?_,k4,⟨need_pos k4,k5⟩⟩
 ·intro p k h1 h2
  have e:=(hreg p k h1 h2).1
  unfold J3 at e
  simp only[Bool.and_eq_true,decide_eq_true_eq]at e
  have a1:=Dz e.1.1.1.2
  omega
 ·intro p k q n h1 h2 h3 h4 h5
  have e:=VM (VM (hreg p k h1 h2).2.2 (show q<p+1 by omega)) (show n<(Es c q).Ah.xs.length from h4)
  unfold Qw at e
  rw[Bool.and_eq_false_iff]at e
  rcases e with e | e
  ·simp only[Bool.or_eq_false_iff,decide_eq_false_iff_not]at e;omega
  have:=meet_no e;omega
 ·intro p h1
  have e:=(MJ (O9 (hp p h1))).1
  have e2:=LQ e _ (List.mem_cons_of_mem _ (List.mem_cons_of_mem _ (List.mem_cons_of_mem _ (List.mem_cons_self ..))))
  rw[Ho (by decide)]at e2
  have:=Dz e2
  simp only[Es]at this
  omega
 ·intro p h1
  have e2:=LQ (hPE p h1).1 _ (List.mem_cons_of_mem _ (List.mem_cons_self ..))
  rw[Ho (by decide)]at e2
  have:=of_decide_eq_true e2
  simp only[Es]at this
  omega
 ·intro p k h1 h2
  have e2:=(hPE p h1).2 k h2
  unfold JH at e2
  rw[Ho (by decide)]at e2
  have:=Dz e2
  omega
 ·intro k h1
  have e0:=hh k h1
  unfold Dp at e0
  have e:=LQ e0 _ (List.mem_cons_of_mem _ (List.mem_cons_self ..))
  rw[Ho (by decide)]at e
  have:=of_decide_eq_true e
  omega
 ·intro k h1
  have e0:=hh k h1
  unfold Dp at e0
  have e:=LQ e0 _ (List.mem_cons_of_mem _ (List.mem_cons_of_mem _ (List.mem_cons_self ..)))
  rw[Ho (by decide)]at e
  have:=Dz e
  have h4:A8 (LD c k)≤4:=by unfold A8;split <;> omega
  omega
 ·intro k h1
  have:=Dz (hcore k h1).1
  simp only[DU]at this
  omega
 ·intro k n h1 h2
  have e:=hcw k n h1 h2
  have e2:=TJ e
  unfold F6 Nk at e
  have e3:=LQ e _ (List.mem_cons_self ..)
  rw[Ho (by decide),Bool.and_eq_true]at e3
  have e4:=Dz e3.1
  exact⟨by omega,e2⟩
 ·intro k n h1 h2
  have e:=hcw k n h1 h2
  unfold F6 Nk at e
  have e3:=LQ e _ (List.mem_cons_of_mem _ (List.mem_cons_of_mem _ (List.mem_cons_self ..)))
  rw[Ho (by decide)]at e3
  simpa using e3
 ·intro k h1
  exact(hcore k h1).2.2
 intro q n h1 h2
 have e:=VM (VM k3 h1) (show n<(Es c q).Ah.xs.length from h2)
 unfold WW at e
 have:=meet_no e
 omega
end
end Go.Proofs.YtlccogilgegnfaaDoor.Ad
namespace Go.Proofs.YtlccogilgegnfaaDoor.Hx
open Go Go.Proofs.YtlccogilgegnfaaDoor.Eng Go.Proofs.YtlccogilgegnfaaDoor.Mem Go.Proofs.YtlccogilgegnfaaDoor.Ly Go.Proofs.YtlccogilgegnfaaDoor.Ad
set_option linter.unusedSimpArgs false
set_option linter.unusedVariables false
set_option maxRecDepth 100000
def WdAt(c:Ai)(j:Nat)(x:Iw):Prop:=x.sv=c.Kernel*16+4+24*(j:Int)∧x.st=c.Kernel*16+21+24*(j:Int)∧x.en=(gd c.Aa.xs j).Entry∧x.mo=(gd c.Aa.xs j).A7∧x.ou=(gd c.Aa.xs j).AV∧∃ a n k,x.tb = .slice a n k
structure Zam(c:Ai)(WS:List Iw)(n:Nat):Prop where
 len:WS.length=n
 at_:∀ j,j<n→WdAt c j (gd WS j)
theorem ws_nil{c:Ai}:Zam c [] 0:=⟨rfl,fun j hj=>absurd hj (Nat.not_lt_zero j)⟩
theorem ws_snoc{c:Ai}{WS:List Iw}{n:Nat}{x:Iw}(h:Zam c WS n)(hx:WdAt c n x):Zam c (WS++[x]) (n+1):=by
 have hl:=h.len
 refine⟨by rw[List.length_append,hl];rfl,fun j hj => ?_⟩
 rcases Nat.lt_or_ge j n with hj' | hj'
 ·rw[WM (by omega)];exact h.at_ j hj'
 obtain rfl:j=n:=by omega
 have e:gd (WS++[x]) j=x:=by rw[←hl];exact gd_snoc
 rw[e];exact hx
def wdS(n dp:Nat)(fr:Int)(nP:Nat)(WS:List Iw)(aV:Option Addr)(cV:Nat)(B:List Nat)(QS:List Aq):List Ch:=[.blk dp (.cells #[.int .i64 fr,.slice aV nP cV] 113 (0,0)) true,BV n 81 10 Iw.cells (.slice aV nP cV) WS,Cm B WS QS]
theorem XB{c:Ai}(h:errOf c=0):Ep c=true:=by
 unfold errOf at h
 cases hk:Ep c with
 | true=>rfl
 | false=>rw[hk]at h;exact absurd h (by decide)
theorem place_is{c:Ai}{L:Ha}(hI:WF c L){i:Nat}(hi:i<c.Aa.xs.length):(gd L.Aa.xs i).Ju=c.Kernel*16+4+24*(i:Int)∧(gd L.Aa.xs i).State=c.Kernel*16+21+24*(i:Int):=by
 obtain⟨_,_,h⟩:=hI.ps i hi
 rw[h]
 show CV c i+2=_∧CV c i+2+17=_
 unfold CV;omega
structure PRng(q:Aq):Prop where
 en:0≤q.Entry∧q.Entry≤4095
 ac:0≤q.Dx∧q.Dx≤2
 re:0≤q.A7∧q.A7≤15
 ou:0≤q.AV∧q.AV≤16
theorem part_rng{c:Ai}(hF:Ff c=AQ){q:Nat}(hq:q<c.Aa.xs.length):PRng (gd c.Aa.xs q):=by
 have h1:CP c q=AQ:=by
  rw[←Wp hq]
  exact YJ hF _ (by have:=GM (c:=c);omega)
 have h2:=(MJ (O9 h1)).1
 have h3:=(MJ (YB h1)).1
 have g1:=LQ h2 (Af (win (Es c q).F7 0 16&&win (Es c q).AV 0 16) 407 ⟨(q:Int), -1⟩) (by simp[Gw])
 have g2:=LQ h2 (Af (win (Es c q).Dx 0 2&&win (Es c q).A7 0 15) 406 ⟨(q:Int), -1⟩) (by simp[Gw])
 have g3:=LQ h3 (Af (win (Es c q).Entry 0 4095&&Gh (Es c q)) 412 ⟨(q:Int), -1⟩) (by simp[H8])
 have k1:=(Ho (by decide)).1 g1
 have k2:=(Ho (by decide)).1 g2
 have k3:=(Ho (by decide)).1 g3
 rw[Bool.and_eq_true]at k1 k2 k3
 exact⟨Dz k3.1,Dz k2.1,Dz k2.2,Dz k1.2⟩
section
variable (w28:World)(y26:Ar)(y18:Aq)(fa30:Nat)(ca32:Array Value)(fb31:Nat)(w6:World)(c:Ai)(ax35:Option Addr)(WS:List Iw)(cp36 n2:Nat)(aV:Option Addr)(cV:Nat)(lay7:Ha)(n9 z:Nat)(b11 o12:Nat)
abbrev VH:Ch:= .blk w28.heap.size (.cells #[i6 y26.Lock,i6 y26.Ju,i6 y26.State,i6 y26.Root,.slice y26.Tables.a y26.Tables.xs.length y26.Tables.cap,.int .u32 y18.Entry,.int .u32 y18.A7,.int .u32 y18.AV,.func (.func fa30) #[] ca32,.func (.func fb31) #[] ca32] 81 (0,0)) true
abbrev VJ:=bk (w6.heap.size+1) #[i6 c.Frames,.slice ax35 ((WS++[(⟨y26.Lock,y26.Ju,y26.State,y26.Root,.slice y26.Tables.a y26.Tables.xs.length y26.Tables.cap,y18.Entry,y18.A7,y18.AV,fa30,fb31,ca32⟩:Iw)]).length) cp36] 113
abbrev NK:=bk n2 #[i6 ((Ff c).Ag.First),i6 ((Ff c).Ag.Second)] 108
abbrev Tm:=bk (w6.heap.size+1) #[i6 c.Frames,.slice aV WS.length cV] 113
abbrev Oi:Ch:= .blk w6.heap.size (.cells (Ha.arr lay7) 58 (0,0)) true
abbrev TA:=bk n9 (Aq.arr y18) 35
abbrev MV:=bk z (Ai.arr c) 26
abbrev VY:=BV z 81 10 Iw.cells (.slice ax35 ((WS++[(⟨y26.Lock,y26.Ju,y26.State,y26.Root,.slice y26.Tables.a y26.Tables.xs.length y26.Tables.cap,y18.Entry,y18.A7,y18.AV,fa30,fb31,ca32⟩:Iw)]).length) cp36) (WS++[(⟨y26.Lock,y26.Ju,y26.State,y26.Root,.slice y26.Tables.a y26.Tables.xs.length y26.Tables.cap,y18.Entry,y18.A7,y18.AV,fa30,fb31,ca32⟩:Iw)])
abbrev Om:D7:=(30,.slice (some ⟨b11,o12,none⟩) c.Aa.xs.length c.Aa.cap)
abbrev Tj:D7:=(30,.slice c.Aa.a c.Aa.xs.length c.Aa.cap)
abbrev JQ:=(31,Ac c.Aa.xs.length)
abbrev SH:=(37,pt (w6.heap.size+1))
abbrev JP:=(8,pt (w6.heap.size+1))
abbrev JM:=(6,pt w6.heap.size)
end
theorem hnew_calls(w:World)(hL:Js w)(c:Ai)(hc:Ai.ok Any w c)(hS:c.Aa.xs.length+c.Aj.xs.length+c.Bc.xs.length≤15000000000000):Calls Tryd.prog 14 #[.agg (Ai.arr c)] w fun e w'=>((¬ (Ff c).e=0∧e = .returned (.tuple #[.pointer none,.int .i64 232]))∨(Ff c=AQ∧∃ dp WS aV cV B w0,e = .returned (.tuple #[.pointer (some ⟨dp,0,none⟩),.int .i64 0])∧w.heap.size≤dp∧Zam c WS c.Aa.xs.length∧(∀ b∈B,w.heap.size≤b)∧Sat ⟨w0,w'.heap.size,wdS w.heap.size dp c.Frames c.Aa.xs.length WS aV cV B c.Aa.xs⟩ w'))∧Ce (fun _=>False) w w':=by
 obtain⟨z,hz⟩:∃ z,z=w.heap.size:=⟨_,rfl⟩
 refine Bf (args:=[.agg (Ai.arr c)]) 65 ⟨w,z,[(Ak w)]⟩ Tryd.func14 rfl (by kernel_rfl) (by kernel_rfl) (Ed hz) ?_
 have hpl:=hc.Aa.1.len
 refine Di [0] [(0,.agg (Ai.arr c))] ?_
 refine q_c 7 1 [] [[o0,o0,o0],[(an 7 1)]] [Qb z,Qb z,Qb z,Qb z,Qb z,Qb z,Qb z] [(1,pt z),(12,.agg (Ai.arr c))] ⟨w,z+1,[(Ak w),(MV c z)]⟩ rfl ⟨rfl,rfl,rfl,rfl,rfl,rfl,rfl,Ae⟩ ?_
 refine Ba 29 #[.agg (Ai.arr c)] (some 13) (.tuple #[i6 ((Ff c).e),.agg #[i6 ((Ff c).Ag.First),i6 ((Ff c).Ag.Second)]]) (fun w1 hw1=>check_calls w1 (hL.ext (hw1.ext rfl)) c (hc.ext (hw1.ext rfl) (fun _ h=>h)) hS) (fun n2 (hn3:z+1≤n2) => ?_)
 refine EI 3 0 [] [[o0,o0,o0,o0,o0,(an 2 2)]] [Qb n2,Qb n2] [(1,pt z),(4,i6 ((Ff c).e))] ⟨w,n2+1,[(Ak w),(MV c z),(NK c n2)]⟩ rfl ⟨rfl,rfl,Ae⟩ ?_
 by_cases h4:((Ff c).e:Int)=0
 ·have hF:=ZY h4;have hG:=Y5 hF;have hGk:=hG.kern;have hGp:=hG.pn;have hGf:=hG.fr;have hcok:=XB hG.err
  refine Au 8 1 [0] [[o0,oF],[(an 7 1)]] [NF ((Ff c).e) 0,Qb z,Qb z,Qb z,Qb z,Qb z,Qb z,Qb z] [(1,pt z),(19,.agg (Ai.arr c))] rfl ⟨nf,rfl,rfl,rfl,rfl,rfl,rfl,rfl,Ae⟩ ?_
  refine l_call [] [] 30 #[.agg (Ai.arr c)] (some 20) Ae ?_
  intro w5 hw5
  refine(of_yes w5 c (hc.ext (hw5.ext rfl) (fun _ h=>h)) hcok).mono ?_
  rintro e w6 ⟨lay7,rfl,hIlay7,hOlay7, -,hkw6⟩
  have hnw6:n2+1≤w6.heap.size:=Ef hw5 hkw6
  rw[hw5.size]at hOlay7;have hpllay7:lay7.Aa.xs.length=c.Aa.xs.length:=hIlay7.pl
  refine⟨_,_,rfl,hw5.U1 hkw6, ?_⟩
  refine EI 20 0 [0] [[o0,o0,o0,o0,(an 4 4),o0],[o0,o0],[o0,(a1 1),o0,o0,o0],[o0,(a1 1),o0,o0]] [Qb w6.heap.size,Qb w6.heap.size,Qb w6.heap.size,Qb w6.heap.size,Qb z,Qb z] [(JM w6),(JP w6),(Tj c),(JQ c),(32,i6 0)] ⟨w,w6.heap.size+2,[(Ak w),(MV c z),(NK c n2),(mid (n2+1) w6),(Oi w6 lay7),(bk (w6.heap.size+1) #[i6 c.Frames,.slice none 0 0] 113)]⟩ rfl ⟨rfl,rfl,rfl,rfl,rfl,rfl,Ae⟩ ?_
  refine g_care0 c.Aa.xs ?_
  refine Un z 81 10 Iw.cells ?_
  refine D8 (fun m a w'=>∃ (n9:Nat) (i:Nat) (WS:List Iw) (B:List Nat) (aV:Option Addr) (cV:Nat),m=c.Aa.xs.length - i∧w6.heap.size+2≤n9∧(i≤c.Aa.xs.length)∧(Zam c WS i)∧(∀ b∈B,z≤b)∧St 65 [(JM w6),(JP w6),(Tj c),(JQ c),(32,Ac i)] [] ⟨w,n9,[(Ak w),(MV c z),(NK c n2),(mid (n2+1) w6),(Oi w6 lay7),(Tm w6 c WS aV cV),(Cm B WS c.Aa.xs),(BV z 81 10 Iw.cells (.slice aV WS.length cV) WS)]⟩ a w') (c.Aa.xs.length - 0) ?_ ?_
  ·intro a w' hs;exact⟨(w6.heap.size+2),0,([]),([]),none,0,rfl,Nat.le_refl _,Nat.zero_le _,ws_nil,(fun b h=>by cases h),hs⟩
  rintro m a w' ⟨n9,i,WS,B,aV,cV,rfl,hn8,hki,hW,hBn,hs⟩
  refine(?_:G Tryd.prog 65 [(JM w6),(JP w6),(Tj c),(JQ c),(32,Ac i)] [] ⟨w,n9,[(Ak w),(MV c z),(NK c n2),(mid (n2+1) w6),(Oi w6 lay7),(Tm w6 c WS aV cV),(Cm B WS c.Aa.xs),(BV z 81 10 Iw.cells (.slice aV WS.length cV) WS)]⟩ _ _ _) a w' hs
  clear hs a w'
  have hwl:=hW.len
  refine CW ?_
  by_cases h10:(i:Int)<(c.Aa.xs.length:Int)
  ·refine Au 10 0 [1] [[oT]] [BT ((i:Int)<(c.Aa.xs.length:Int))] [(JM w6),(JP w6),(Tj c),(JQ c),(32,Ac i),(33,.bool true)] rfl ⟨bt,Ae⟩ ?_
   obtain⟨b11,o12,ha13,hF15,hc14⟩:=(hc.Aa).1.all (show 0<c.Aa.xs.length by omega)
   replace ha13:c.Aa.a=some ⟨b11,o12,none⟩:=ha13
   refine Lj [(JM w6),(JP w6),(Om c b11 o12),(JQ c),(32,Ac i),(33,.bool true)] (by(try dsimp only[NK,Tm,Oi,MV,Om,Tj,JQ,JP,JM]);simp only[ha13]) ?_
   have hc16:=hc14 i (show i<c.Aa.xs.length by omega)
   have he17:=(hc.Aa).2 i (show i<c.Aa.xs.length by omega)
   obtain⟨y18,hy18⟩:∃ y_,y_=gd c.Aa.xs i:=⟨_,rfl⟩
   rw[←hy18]at he17 hc16
   have hry18:PRng y18:=by rw[hy18];exact part_rng hF (by omega)
   have hrey18:=hry18.en;have hrry18:=hry18.re;have hroy18:=hry18.ou
   refine q_c 3 0 [] [[o0,(oi i),(ol 0 (Aq.arr y18)),o0,o0,(an 8 8)]] [Dc i,i<c.Aa.xs.length,BM,GN w b11 (o12+i*8) (Aq.arr y18),Qb n9,Qb n9,Qb n9,Qb n9,Qb n9,Qb n9,Qb n9,Qb n9] [(JM w6),(JP w6),(Om c b11 o12),(JQ c),(32,Ac i),(10,pt n9),(9,Ac i)] ⟨w,n9+1,[(Ak w),(MV c z),(NK c n2),(mid (n2+1) w6),(Oi w6 lay7),(Tm w6 c WS aV cV),(Cm B WS c.Aa.xs),(BV z 81 10 Iw.cells (.slice aV WS.length cV) WS),(TA y18 n9)]⟩ rfl ⟨rfl,(by omega),rfl,Em hc16,rfl,rfl,rfl,rfl,rfl,rfl,rfl,rfl,Ae⟩ ?_
   obtain⟨b19,o20,ha21,hF23,hc22⟩:=(hOlay7.Aa).1.all (show 0<lay7.Aa.xs.length by omega)
   replace ha21:lay7.Aa.a=some ⟨b19,o20,none⟩:=ha21
   have hc24:=hc22 i (show i<lay7.Aa.xs.length by omega)
   have he25:=(hOlay7.Aa).2 i (show i<lay7.Aa.xs.length by omega)
   obtain⟨y26,hy26⟩:∃ y_,y_=gd lay7.Aa.xs i:=⟨_,rfl⟩
   rw[←hy26]at he25 hc24
   have hpiy26:y26.Ju=c.Kernel*16+4+24*(i:Int)∧y26.State=c.Kernel*16+21+24*(i:Int):=by rw[hy26];exact place_is hIlay7 (by omega)
   refine DZ 26 [0,1,2,3,4,5,6,8] [(Ak w),(MV c z),(NK c n2),(mid (n2+1) w6),(Oi w6 lay7),(Tm w6 c WS aV cV),(Cm B WS c.Aa.xs),(TA y18 n9)] rfl rfl ?_
   refine Ci [(0,o0),(1,o0),(2,o0),(3,o0),(4,(a1 5)),(5,o0),(6,(EM 4 b19 o20 lay7.Aa)),(7,o0),(8,(oi i)),(9,(oa [.via 3 (i6 y26.Lock),.via 3 (i6 y26.Ju),.via 3 (i6 y26.State),.via 3 (i6 y26.Root),.via 3 (.slice y26.Tables.a y26.Tables.xs.length y26.Tables.cap)])),(10,o0),(11,(a1 7)),(12,(ov (.int .u32 y18.Entry))),(13,o0),(14,(a1 7)),(15,(ov (.int .u32 y18.A7))),(16,o0),(17,(a1 7)),(18,(ov (.int .u32 y18.AV))),(19,(an 8 7))] [6,8,30,31,32,37,41,46,49,52,55,56] [Qb (w6.heap.size+1),Qb w6.heap.size,Ej b19 o20 lay7.Aa,Dc i,i<lay7.Aa.xs.length,BM,∀ w',Ch.holds (mid (n2+1) w6) w'→w'.cell? ⟨b19,o20+i*5,none⟩=some (i6 y26.Lock),∀ w',Ch.holds (mid (n2+1) w6) w'→w'.cell? ⟨b19,o20+i*5+1,none⟩=some (i6 y26.Ju),∀ w',Ch.holds (mid (n2+1) w6) w'→w'.cell? ⟨b19,o20+i*5+2,none⟩=some (i6 y26.State),∀ w',Ch.holds (mid (n2+1) w6) w'→w'.cell? ⟨b19,o20+i*5+3,none⟩=some (i6 y26.Root),∀ w',Ch.holds (mid (n2+1) w6) w'→w'.cell? ⟨b19,o20+i*5+4,none⟩=some (.slice y26.Tables.a y26.Tables.xs.length y26.Tables.cap),Qb n9,Value.int .u32 (IntKind.u32.wrap (y18.Entry))=Value.int .u32 (y18.Entry),Qb n9,Value.int .u32 (IntKind.u32.wrap (y18.A7))=Value.int .u32 (y18.A7),Qb n9,Value.int .u32 (IntKind.u32.wrap (y18.AV))=Value.int .u32 (y18.AV),Qb n9,Qb n9,Qb n9,Qb n9,Qb n9,Qb n9,Qb n9,Qb n9] (Dw 20 7) [(JM w6),(JP w6),(Om c b11 o12),(JQ c),(32,Ac i),(SH w6),(41,.slice aV WS.length cV),(46,.agg (Ar.arr y26)),(49,.int .u32 y18.Entry),(52,.int .u32 y18.A7),(55,.int .u32 y18.AV),(56,.agg (Aq.arr y18))] ⟨rfl,rfl,Eg ha21,rfl,(by omega),rfl,KI hF23 (hc24 0 _ rfl),KI hF23 (hc24 1 _ rfl),KI hF23 (hc24 2 _ rfl),KI hF23 (hc24 3 _ rfl),KI hF23 (hc24 4 _ rfl),rfl,congrArg (Value.int .u32) (Ru rfl (by omega) (by omega)),rfl,congrArg (Value.int .u32) (Ru rfl (by omega) (by omega)),rfl,congrArg (Value.int .u32) (Ru rfl (by omega) (by omega)),rfl,rfl,rfl,rfl,rfl,rfl,rfl,rfl,Ae⟩ ?_
   refine Bq 20 ?_
   refine FU [] [] 31 #[.agg (Aq.arr y18)] (some 57) (by as_aux_lemma=>kernel_rfl) rfl rfl Ae ?_
   intro w27 hw27
   refine(careof_calls w27 y18).mono ?_
   rintro e w28 ⟨b29,fa30,fb31,ca32,w33,rfl,hcrw28,hbw28,hOw28,hkw28⟩
   have hnw28:n9+1≤w28.heap.size:=Ef hw27 hkw28
   rw[show w27.heap.size=n9+1 from hw27.size]at hbw28
   have hs34:=hw27.XK hkw28 hOw28 (fun d hd k hk=>by rw[List.mem_singleton.1 hd]at hk;have hk':k=b29:=hk;show n9+1≤k;omega)
   refine⟨_,_,rfl,hs34,.inr (fun c hc=>hs34.all c (by first | exact hc | exact DW (is:=[0,1,2,3,4,5,6,8]) rfl c hc)), ?_⟩
   refine CY [6,8,30,31,32,37,41,46,49,52,55,57] [(JM w6),(JP w6),(Om c b11 o12),(JQ c),(32,Ac i),(SH w6),(41,.slice aV WS.length cV),(46,.agg (Ar.arr y26)),(49,.int .u32 y18.Entry),(52,.int .u32 y18.A7),(55,.int .u32 y18.AV),(57,.agg #[.func (.func fa30) #[] ca32,.func (.func fb31) #[] ca32])] ?_
   refine Ci [(21,o0)] [6,8,30,31,32,37,41,58] [] (Dw 22 5) [(JM w6),(JP w6),(Om c b11 o12),(JQ c),(32,Ac i),(SH w6),(41,.slice aV WS.length cV),(58,.agg #[i6 y26.Lock,i6 y26.Ju,i6 y26.State,i6 y26.Root,.slice y26.Tables.a y26.Tables.xs.length y26.Tables.cap,.int .u32 y18.Entry,.int .u32 y18.A7,.int .u32 y18.AV,.func (.func fa30) #[] ca32,.func (.func fb31) #[] ca32])] Ae ?_
   refine Bq 22 ?_
   refine BC o0 [6,8,30,31,32,37,41,59] [] [(JM w6),(JP w6),(Om c b11 o12),(JQ c),(32,Ac i),(SH w6),(41,.slice aV WS.length cV),(59,.slice (some ⟨w28.heap.size,0,none⟩) 1 1)] ⟨w,w28.heap.size+1,[(Ak w),(MV c z),(NK c n2),(mid (n2+1) w6),(Oi w6 lay7),(Tm w6 c WS aV cV),(Cm B WS c.Aa.xs),(BV z 81 10 Iw.cells (.slice aV WS.length cV) WS),(TA y18 n9),(bk b29 (Aq.arr y18) 35),(VH w28 y26 y18 fa30 ca32 fb31)]⟩ [0,1,2,3,4,5,6,8] Ae (.inr rfl) ?_
   refine Bq 23 ?_
   refine Uf z 7 10 WS [(⟨y26.Lock,y26.Ju,y26.State,y26.Root,.slice y26.Tables.a y26.Tables.xs.length y26.Tables.cap,y18.Entry,y18.A7,y18.AV,fa30,fb31,ca32⟩:Iw)] Iw.cells 81 10 88 (.slice aV WS.length cV) w28.heap.size 1 1 #[i6 y26.Lock,i6 y26.Ju,i6 y26.State,i6 y26.Root,.slice y26.Tables.a y26.Tables.xs.length y26.Tables.cap,.int .u32 y18.Entry,.int .u32 y18.A7,.int .u32 y18.AV,.func (.func fa30) #[] ca32,.func (.func fb31) #[] ca32] 81 (0,0) true (some 60) [0,1,2,3,4,5,6,8] (by simp only[List.length_cons,List.length_nil];omega) (show z≤w28.heap.size+1 by omega) (.inr ⟨rfl,rfl⟩) (fun ax35 cp36 n37 (hn38:w28.heap.size+1≤n37) => ?_)
   refine CY [6,8,30,31,32,37,60] [(JM w6),(JP w6),(Om c b11 o12),(JQ c),(32,Ac i),(SH w6),(60,.slice ax35 ((WS++[(⟨y26.Lock,y26.Ju,y26.State,y26.Root,.slice y26.Tables.a y26.Tables.xs.length y26.Tables.cap,y18.Entry,y18.A7,y18.AV,fa30,fb31,ca32⟩:Iw)]).length) cp36)] ?_
   refine Ci [(24,o0),(25,o0)] [6,8,30,31,32,60,62] [] (Dw 26 1) [(JM w6),(JP w6),(Om c b11 o12),(JQ c),(32,Ac i),(60,.slice ax35 ((WS++[(⟨y26.Lock,y26.Ju,y26.State,y26.Root,.slice y26.Tables.a y26.Tables.xs.length y26.Tables.cap,y18.Entry,y18.A7,y18.AV,fa30,fb31,ca32⟩:Iw)]).length) cp36),(62,.pointer (some ⟨w6.heap.size+1,1,none⟩))] Ae ?_
   refine Bq 26 ?_
   refine BC (a1 5) [6,8,30,31,32] [Qb (w6.heap.size+1)] [(JM w6),(JP w6),(Om c b11 o12),(JQ c),(32,Ac i)] ⟨w,n37,[(Ak w),(MV c z),(NK c n2),(mid (n2+1) w6),(Oi w6 lay7),(VJ y26 y18 fa30 ca32 fb31 w6 c ax35 WS cp36),(Cm B WS c.Aa.xs),(VY y26 y18 fa30 ca32 fb31 ax35 WS cp36 z),(TA y18 n9),(bk b29 (Aq.arr y18) 35),(VH w28 y26 y18 fa30 ca32 fb31)]⟩ [] ⟨rfl,Ae⟩ (.inl rfl) ?_
   refine DX 27 [0,1,2,3,4,5,6,7,8,9,10] [(Ak w),(MV c z),(NK c n2),(mid (n2+1) w6),(Oi w6 lay7),(VJ y26 y18 fa30 ca32 fb31 w6 c ax35 WS cp36),(Cm B WS c.Aa.xs),(VY y26 y18 fa30 ca32 fb31 ax35 WS cp36 z),(TA y18 n9),(bk b29 (Aq.arr y18) 35),(VH w28 y26 y18 fa30 ca32 fb31)] rfl rfl ?_
   refine CE ?_
   refine NU 4 0 [] [[(ov (i6 ((i+1:Nat):Int))),o0]] [Wr ((i:Int)+1) (((i+1:Nat):Int))] [(JM w6),(JP w6),(Om c b11 o12),(JQ c),(32,i6 ((i+1:Nat):Int))] rfl ⟨BP,Ae⟩ ?_
   refine e_care 6 9 [0,1,2,3,4,5,7,8,10] B WS c.Aa.xs b29 i (⟨y26.Lock,y26.Ju,y26.State,y26.Root,.slice y26.Tables.a y26.Tables.xs.length y26.Tables.cap,y18.Entry,y18.A7,y18.AV,fa30,fb31,ca32⟩:Iw) y18 [(Ak w),(MV c z),(NK c n2),(mid (n2+1) w6),(Oi w6 lay7),(VJ y26 y18 fa30 ca32 fb31 w6 c ax35 WS cp36),(VY y26 y18 fa30 ca32 fb31 ax35 WS cp36 z),(TA y18 n9),(VH w28 y26 y18 fa30 ca32 fb31)] hW.len hy18.symm hcrw28 ?_
   refine Cc [0,1,2,3,4,5,9,6] [(Ak w),(MV c z),(NK c n2),(mid (n2+1) w6),(Oi w6 lay7),(VJ y26 y18 fa30 ca32 fb31 w6 c ax35 WS cp36),(Cm (B++[b29]) (WS++[(⟨y26.Lock,y26.Ju,y26.State,y26.Root,.slice y26.Tables.a y26.Tables.xs.length y26.Tables.cap,y18.Entry,y18.A7,y18.AV,fa30,fb31,ca32⟩:Iw)]) c.Aa.xs),(VY y26 y18 fa30 ca32 fb31 ax35 WS cp36 z)] rfl rfl ?_
   refine GH [6,8,30,31,32] [(JM w6),(JP w6),(Tj c),(JQ c),(32,i6 ((i+1:Nat):Int))] (by(try dsimp only[VH,VJ,NK,Tm,Oi,TA,MV,VY,Om,Tj,JQ,SH,JP,JM]);simp only[ha13];rfl) ?_
   refine BR (fun a w' hs=>⟨c.Aa.xs.length - (i+1),by omega,n37,(i+1),(WS++[(⟨y26.Lock,y26.Ju,y26.State,y26.Root,.slice y26.Tables.a y26.Tables.xs.length y26.Tables.cap,y18.Entry,y18.A7,y18.AV,fa30,fb31,ca32⟩:Iw)]),(B++[b29]),ax35,cp36,rfl,by omega,by omega,ws_snoc hW ⟨hpiy26.1,hpiy26.2,congrArg Aq.Entry hy18,congrArg Aq.A7 hy18,congrArg Aq.AV hy18,_,_,_,rfl⟩,(fun b h=>(List.mem_append.1 h).elim (hBn b) (fun h=>by rw[List.mem_singleton.1 h];omega)),hs⟩)
  refine Au 15 0 [0] [[oF],[o0,o0,o0]] [BF ((i:Int)<(c.Aa.xs.length:Int))] [(2,pt (w6.heap.size+1)),(3,i6 0)] rfl ⟨bf,Ae⟩ ?_
  refine Az [] [] (.tuple #[pt (w6.heap.size+1),i6 0]) Ae ?_
  intro w39 hw39
  have h4:=hw39.pick [5,7,6] rfl rfl
  (try dsimp only[VH,VJ,NK,Tm,Oi,TA,MV,VY,Om,Tj,JQ,SH,JP,JM]at h4)
  obtain rfl:i=c.Aa.xs.length:=by omega
  rw[hwl]at h4
  rw[←hz]
  exact⟨.inr ⟨hF,w6.heap.size+1,WS,_,_,B,w,rfl,(show z≤w6.heap.size+1 by omega),hW,hBn,by rw[hw39.size];exact h4⟩,AB hw39⟩
 refine Au 9 0 [1] [[o0,oT],[o0,o0]] [NT ((Ff c).e) 0] [(2,.pointer none),(3,i6 232)] rfl ⟨nt,Ae⟩ ?_
 refine Az [] [] (.tuple #[.pointer none,i6 232]) Ae ?_
 intro w40 hw40
 exact⟨.inl ⟨h4,rfl⟩,AB hw40⟩
end Go.Proofs.YtlccogilgegnfaaDoor.Hx
namespace Go.Proofs.YtlccogilgegnfaaDoor.Eng
open Go Go.Lib Go.Proofs.YtlccogilgegnfaaDoor.Mem
set_option linter.unusedSimpArgs false
set_option linter.unusedVariables false
section
variable {P:Program}{N:Nat}{env:Env}{ds:List Deferred}{A:AW}{ops:Array Oper}{l:List Oper}{s:List Kt}{Q:Exit→Act→World→Prop}{c:Code}
def KG(P:Program)(N:Nat)(ops:Array Oper)(env:Env):List Oper→Option (Nat×Nat×Nat×TypeId×Option Nat)
 | []=>none
 | o :: _=>match o.op,Oc ops env o,Ld env o,Oa N o.dst with
  | .convert src dst x,some true,true,true=>match Nat.beq src dst,P.underlying src,IR env x with
   | true,some (.slice e),.slice (some ⟨b,0,none⟩) n cap=>match P.underlying e with
    | some (.int .u8)=>some (b,n,cap,e,o.dst)
    | _=>none
   | _,_,_=>none
  | _,_,_,_=>none
end
theorem sl_sub{α:Type}{cells:α→List Value}{sz:Nat}{F:Nat→Prop}{w:World}{cap:Nat}{xs:List α}{b off:Nat}(h:PW cells sz F w ⟨some ⟨b,off,none⟩,cap,xs⟩){i n:Nat}(hi:i+n≤xs.length)(hn:xs≠[]):PW cells sz F w ⟨some ⟨b,off+Ee sz i,none⟩,cap - i,(xs.drop i).take n⟩:=by
 have h1:=h.len
 have h2:=h.le
 simp only at h1 h2
 have hl:((xs.drop i).take n).length=n:=by rw[List.length_take,List.length_drop];omega
 refine⟨by simp only[hl];omega,by simp only[hl];omega,fun _ => ?_⟩
 obtain⟨b',off',ha,hF,hc⟩:=h.cells hn
 simp only[Option.some.injEq,Addr.mk.injEq]at ha
 obtain⟨rfl,rfl, -⟩:=ha
 refine⟨b,off+Ee sz i,rfl,hF,fun j hj k v hv => ?_⟩
 simp only[hl]at hj
 have hx:((xs.drop i).take n)[j]'(by rw[hl];exact hj)=xs[i+j]'(by omega):=by simp
 simp only[hx]at hv
 have h3:=hc (i+j) (by simp only;omega) k v hv
 rw[Jy,Jy]at *
 rw[show off+i*sz+j*sz+k=off+(i+j)*sz+k from by rw[Nat.add_mul];omega]
 exact h3
end Go.Proofs.YtlccogilgegnfaaDoor.Eng
