/- Packed: Ad, Ae, Af. No conditions. -/
import Derived.Test.YtjdmhijaanmccaaDoorPn1
set_option maxHeartbeats 4000000
namespace Go.Proofs.YtjdmhijaanmccaaDoor.Ad
open Go Go.Proofs.YtjdmhijaanmccaaDoor.Eng Go.Proofs.YtjdmhijaanmccaaDoor.Mem Go.Proofs.YtjdmhijaanmccaaDoor.Ly
set_option linter.unusedSimpArgs false
set_option linter.unusedVariables false
set_option maxRecDepth 100000
def Bd(g:BD):Prop:=(0≤g.BP∧g.BP≤255)∧(1≤g.BH∧g.BH≤256)∧(0≤g.Frame∧g.Frame≤1024)
def Ol(c:Aj)(g:BD):Bool:=win g.BP 0 255&&win g.BH 1 (256 - g.BP)&&decide (0≤g.Frame)&&decide (g.BH≤c.Frames - g.Frame)&&win g.JC 1 7
def U4(c:Aj)(p k i:Nat):Bool:=meet (Ep c p k).BP (Ep c p k).BH (Ep c p i).BP (Ep c p i).BH
def VG(c:Aj)(p k q n:Nat):Bool:=(decide (q<p)||decide (n<k))&&meet (Ep c p k).Frame (Ep c p k).BH (Ep c q n).Frame (Ep c q n).BH
def ZV(c:Aj)(p k q:Nat):Bool:=(List.range (Gz c q).Ai.xs.length).any (VG c p k q)
def Gt(c:Aj)(p k:Nat):Am:=if Ol c (Ep c p k)=false then⟨409,⟨p,k⟩⟩else if(List.range k).any (U4 c p k)=true then⟨410,⟨p,k⟩⟩else if(List.range (p+1)).any (ZV c p k)=true then⟨411,⟨p,k⟩⟩else D9
theorem TD{c:Aj}{p k:Nat}(h:Ol c (Ep c p k)=false):Gt c p k=⟨409,⟨p,k⟩⟩:=by unfold Gt;rw[if_pos h]
theorem regQ_b{c:Aj}{p k:Nat}(h:Ol c (Ep c p k)=true)(h2:(List.range k).any (U4 c p k)=true):Gt c p k=⟨410,⟨p,k⟩⟩:=by unfold Gt;rw[if_neg (by simp[h]),if_pos h2]
theorem Za5{c:Aj}{p k:Nat}(h:Ol c (Ep c p k)=true)(h2:(List.range k).any (U4 c p k)=false)(h3:(List.range (p+1)).any (ZV c p k)=true):Gt c p k=⟨411,⟨p,k⟩⟩:=by unfold Gt;rw[if_neg (by simp[h]),if_neg (by simp[h2]),if_pos h3]
theorem regQ_d{c:Aj}{p k:Nat}(h:Ol c (Ep c p k)=true)(h2:(List.range k).any (U4 c p k)=false)(h3:(List.range (p+1)).any (ZV c p k)=false):Gt c p k=D9:=by unfold Gt;rw[if_neg (by simp[h]),if_neg (by simp[h2]),if_neg (by simp[h3])]
theorem Zu{c:Aj}{g:BD}(hF:c.Frames≤1024)(h:Ol c g=true):Bd g:=by
 unfold Ol win at h;simp at h;unfold Bd;omega
theorem XR{c:Aj}{p k:Nat}(h:Gt c p k=D9):Ol c (Ep c p k)=true:=by
 by_cases hb:Ol c (Ep c p k)=false
 ·rw[TD hb]at h;exact absurd (congrArg Am.e h) (by decide:¬ (409:Int)=0)
 simpa using hb
section
variable (z p k:Nat)(y16:BD)(n58:Nat)(y62:Aq)(c:Aj)(b66 o67:Nat)(b1 o2:Nat)(b9 o10:Nat)(y8:Aq)(n:Nat)(w:World)
abbrev U2:=bk (z+1) #[i6 409,Ac p,Ac k] 111
abbrev KN:=bk (z+1) #[i6 0,i6 0,i6 0] 111
abbrev IA:=bk (z+2) (BD.arr y16) 103
abbrev Qk:=bk n58 (Aq.arr y62) 52
abbrev Ip:=bk z (Aj.arr c) 26
abbrev LQ:Dc:=(100,.slice (some ⟨b66,o67,none⟩) y62.Ai.xs.length y62.Ai.cap)
abbrev GU:Dc:=(92,.slice (some ⟨b1,o2,none⟩) (p+1 - 0) (c.Aa.cap - 0))
abbrev NM:Dc:=(100,.slice y62.Ai.a y62.Ai.xs.length y62.Ai.cap)
abbrev Nj:Dc:=(68,.slice (some ⟨b9,o10,none⟩) (k - 0) (y8.Ai.cap - 0))
abbrev Jd:=(101,Ac y62.Ai.xs.length)
abbrev Gg:=(93,i6 ((p+1 - 0:Nat):Int))
abbrev Oa:=(102,i6 ((n+1:Nat):Int))
abbrev D5:=(6,pt (z+1))
abbrev Et:=(7,pt (z+2))
abbrev KW:=(69,i6 ((k - 0:Nat):Int))
abbrev N8:=[(Ak w),(Ip z c),(KN z),(IA z y16),(Qk n58 y62)]
end
theorem YL(w:World)(hL:Iq w)(c:Aj)(hc:Aj.ok Any w c)(p k:Nat)(hp:p<c.Aa.xs.length)(hk:k<(gd c.Aa.xs p).Ai.xs.length)(hFr:1≤c.Frames∧c.Frames≤1024)(hb:∀ q n,q≤p→n<(gd c.Aa.xs q).Ai.xs.length→(q<p∨n<k)→Bd (Ep c q n)):Calls Tryd.prog 94 #[.agg (Aj.arr c),.int .i64 (p:Int),.int .i64 (k:Int)] w fun e w'=>e = .returned (.agg (Am.arr (Gt c p k)))∧CZ (fun _=>False) w w':=by
 obtain⟨z,hz⟩:∃ z,z=w.heap.size:=⟨_,rfl⟩
 refine Cb (args:=[.agg (Aj.arr c),Ac p,Ac k]) 133 ⟨w,z,[(Ak w)]⟩ Tryd.func94 rfl (by kernel_rfl) (by kernel_rfl) (ES hz) ?_
 have hpl:=hc.Aa.1.len;have hpc:=hc.Aa.1.le;have hrl:=(hc.Aa.2 p hp).Ai.1.len;have hrc:=(hc.Aa.2 p hp).Ai.1.le
 refine Ee [0,1,2] [(0,.agg (Aj.arr c)),(1,Ac p),(2,Ac k)] ?_
 refine q_c 5 0 [] [[o0,o0]] [] [(1,Ac p),(2,Ac k),(3,pt z),(D5 z)] ⟨w,z+2,[(Ak w),(Ip z c),(KN z)]⟩ rfl Af ?_
 obtain⟨b1,o2,ha3,hF5,hc4⟩:=(hc.Aa).1.all (show 0<c.Aa.xs.length by omega)
 replace ha3:c.Aa.a=some ⟨b1,o2,none⟩:=ha3
 have hc6:=hc4 p (show p<c.Aa.xs.length by omega)
 have he7:=(hc.Aa).2 p (show p<c.Aa.xs.length by omega)
 obtain⟨y8,hy8⟩:∃ y_,y_=gd c.Aa.xs p:=⟨_,rfl⟩
 rw[←hy8]at he7 hc6
 (try rw[←hy8]at hk hrl hrc)
 obtain⟨b9,o10,ha11,hF13,hc12⟩:=(he7.Ai).1.all (show 0<y8.Ai.xs.length by omega)
 replace ha11:y8.Ai.a=some ⟨b9,o10,none⟩:=ha11
 have hc14:=hc12 k (show k<y8.Ai.xs.length by omega)
 have he15:=(he7.Ai).2 k (show k<y8.Ai.xs.length by omega)
 obtain⟨y16,hy16⟩:∃ y_,y_=gd y8.Ai.xs k:=⟨_,rfl⟩
 rw[←hy16]at he15 hc14
 have hfy16:(-9223372036854775808:Int)≤y16.Frame∧y16.Frame≤9223372036854775807:=he15.Frame
 refine q_c 6 2 [] [[o0,(Gy 1 b1 o2 c.Aa),o0,(oi p),o0,⟨.auto [.via 0 (.slice y8.Ai.a y8.Ai.xs.length y8.Ai.cap)],some (.slice (some ⟨b9,o10,none⟩) y8.Ai.xs.length y8.Ai.cap)⟩,o0,(oi k),(ol 0 (BD.arr y16)),o0,(an 4 3)],[o0,(a1 3)]] [Qb z,FO b1 o2 c.Aa,DJ p,p<c.Aa.xs.length,Di,Old w b1 (o2+p*8+6) (.slice y8.Ai.a y8.Ai.xs.length y8.Ai.cap),FO b9 o10 y8.Ai,DJ k,k<y8.Ai.xs.length,Di,He w b9 (o10+k*4) (BD.arr y16),Qb (z+2),Qb (z+2),Qb (z+2),Qb (z+2),Qb (z+2)] [(1,Ac p),(2,Ac k),(3,pt z),(D5 z),(Et z),(24,i6 y16.BP)] ⟨w,z+3,[(Ak w),(Ip z c),(KN z),(IA z y16)]⟩ rfl ⟨rfl,FP ha3,rfl,(by omega),rfl,Aw (hc6 6 _ rfl),FP ha11,rfl,(by omega),rfl,EH hc14,rfl,rfl,rfl,rfl,rfl,Af⟩ ?_
 refine BI 63 #[i6 y16.BP,i6 0,i6 255] (some 25) (.bool (win y16.BP 0 255)) (fun w17 hw17=>BL w17 y16.BP 0 255) (fun n18 (hn19:z+3≤n18) => ?_)
 refine DZ [1,2,3,6,7,25] [(1,Ac p),(2,Ac k),(3,pt z),(D5 z),(Et z),(25,.bool (win y16.BP 0 255))] ?_
 by_cases h20:(win y16.BP 0 255)=true
 ·have hd21:=H8 h20
  refine Cc 0 7 [] [[(ov (.bool false)),o0,o0,(a1 3),o0,(a1 3),(ov (i6 (256 - y16.BP)))]] [Value.bool (!(win y16.BP 0 255))=Value.bool false,Qb (z+2),Qb (z+2),Wr ((256:Int) - y16.BP) (256 - y16.BP)] [(1,Ac p),(2,Ac k),(3,pt z),(D5 z),(Et z),(27,.bool false),(29,i6 y16.BH),(32,i6 (256 - y16.BP))] rfl ⟨by simp[h20],rfl,rfl,CB,Af⟩ ?_
  refine BI 63 #[i6 y16.BH,i6 1,i6 (256 - y16.BP)] (some 33) (.bool (win y16.BH 1 (256 - y16.BP))) (fun w22 hw22=>BL w22 y16.BH 1 (256 - y16.BP)) (fun n23 (hn24:n18≤n23) => ?_)
  refine DZ [1,2,3,6,7,27,33] [(1,Ac p),(2,Ac k),(3,pt z),(D5 z),(Et z),(27,.bool false),(33,.bool (win y16.BH 1 (256 - y16.BP)))] ?_
  by_cases h25:(win y16.BH 1 (256 - y16.BP))=true
  ·have hd26:=H8 h25
   by_cases h27:(y16.Frame:Int)<0
   ·refine Cc 5 2 [1] [[(ov (.bool false)),o0,o0,o0,(a1 3),oT,o0,o0,o0,o0,o0],[o0,o0]] [Value.bool (!(win y16.BH 1 (256 - y16.BP)))=Value.bool false,Qb (z+2),BT ((y16.Frame:Int)<0)] [(D5 z),(57,Ac p),(58,Ac k)] rfl ⟨by simp[h25],rfl,bt,Af⟩ ?_
    refine BI 96 #[(Ac p),Ac k] (some 59) (.agg #[(Ac p),Ac k]) (fun w28 hw28=>F5 w28 (p:Int) (k:Int)) (fun n29 (hn30:n23≤n29) => ?_)
    refine Gi 3 0 [] [[o0,(an 3 2)]] [Qb (z+1),Qb (z+1),Qb (z+1)] [(D5 z)] ⟨w,n29,[(Ak w),(Ip z c),(U2 z p k),(IA z y16)]⟩ rfl ⟨rfl,rfl,rfl,Af⟩ ?_
    refine AO [.at 2,.at 2,.at 2] [Qb (z+1),Qb (z+1),Qb (z+1)] (.agg #[i6 409,Ac p,Ac k]) ⟨rfl,rfl,rfl,Af⟩ ?_
    intro w31 hw31
    refine⟨congrArg Ending.returned (?_:Value.agg #[i6 409,Ac p,Ac k] = .agg (Am.arr (Gt c p k))),Bi hw31⟩
    have hq:Gt c p k=_:=TD (by have ek:Ep c p k=y16:=(by dsimp only[Ep];rw[←hy8,←hy16]);rw[ek];unfold Ol win;simp;omega)
    exact(congrArg (fun t=>Value.agg (Am.arr t)) hq).symm
   by_cases h32:(c.Frames - y16.Frame:Int)<y16.BH
   ·refine Cc 5 2 [1] [[(ov (.bool false)),o0,o0,o0,(a1 3),oF,o0,o0,o0,(a1 3),o0,(a1 1),o0,(a1 3),(ov (i6 (c.Frames - y16.Frame))),oT,o0,o0,o0],[o0,o0]] [Value.bool (!(win y16.BH 1 (256 - y16.BP)))=Value.bool false,Qb (z+2),BF ((y16.Frame:Int)<0),Qb (z+2),Qb z,Qb (z+2),Wr ((c.Frames:Int) - y16.Frame) (c.Frames - y16.Frame),BT ((y16.BH:Int) > (c.Frames - y16.Frame))] [(D5 z),(57,Ac p),(58,Ac k)] rfl ⟨by simp[h25],rfl,bf,rfl,rfl,rfl,CB,bt,Af⟩ ?_
    refine BI 96 #[(Ac p),Ac k] (some 59) (.agg #[(Ac p),Ac k]) (fun w33 hw33=>F5 w33 (p:Int) (k:Int)) (fun n34 (hn35:n23≤n34) => ?_)
    refine Gi 3 0 [] [[o0,(an 3 2)]] [Qb (z+1),Qb (z+1),Qb (z+1)] [(D5 z)] ⟨w,n34,[(Ak w),(Ip z c),(U2 z p k),(IA z y16)]⟩ rfl ⟨rfl,rfl,rfl,Af⟩ ?_
    refine AO [.at 2,.at 2,.at 2] [Qb (z+1),Qb (z+1),Qb (z+1)] (.agg #[i6 409,Ac p,Ac k]) ⟨rfl,rfl,rfl,Af⟩ ?_
    intro w36 hw36
    refine⟨congrArg Ending.returned (?_:Value.agg #[i6 409,Ac p,Ac k] = .agg (Am.arr (Gt c p k))),Bi hw36⟩
    have hq:Gt c p k=_:=TD (by have ek:Ep c p k=y16:=(by dsimp only[Ep];rw[←hy8,←hy16]);rw[ek];unfold Ol win;simp;omega)
    exact(congrArg (fun t=>Value.agg (Am.arr t)) hq).symm
   refine Cc 0 20 [] [[(ov (.bool false)),o0,o0,o0,(a1 3),oF,o0,o0,o0,(a1 3),o0,(a1 1),o0,(a1 3),(ov (i6 (c.Frames - y16.Frame))),oF,o0,o0,o0,(a1 3)]] [Value.bool (!(win y16.BH 1 (256 - y16.BP)))=Value.bool false,Qb (z+2),BF ((y16.Frame:Int)<0),Qb (z+2),Qb z,Qb (z+2),Wr ((c.Frames:Int) - y16.Frame) (c.Frames - y16.Frame),BF ((y16.BH:Int) > (c.Frames - y16.Frame)),Qb (z+2)] [(1,Ac p),(2,Ac k),(3,pt z),(D5 z),(Et z),(51,.bool false),(53,i6 y16.JC)] rfl ⟨by simp[h25],rfl,bf,rfl,rfl,rfl,CB,bf,rfl,Af⟩ ?_
   refine BI 63 #[i6 y16.JC,i6 1,i6 7] (some 54) (.bool (win y16.JC 1 7)) (fun w37 hw37=>BL w37 y16.JC 1 7) (fun n38 (hn39:n23≤n38) => ?_)
   refine DZ [1,2,3,6,7,51,54] [(1,Ac p),(2,Ac k),(3,pt z),(D5 z),(Et z),(51,.bool false),(54,.bool (win y16.JC 1 7))] ?_
   by_cases h40:(win y16.JC 1 7)=true
   ·have hd41:=H8 h40
    refine Cc 11 0 [0] [[(ov (.bool false)),o0],[o0,(Gy 1 b1 o2 c.Aa),o0,(oi p),o0,⟨.auto [.via 0 (.slice y8.Ai.a y8.Ai.xs.length y8.Ai.cap)],some (.slice (some ⟨b9,o10,none⟩) y8.Ai.xs.length y8.Ai.cap)⟩,o0,⟨.slc 0 k false,none⟩,o0,o0]] [Value.bool (!(win y16.JC 1 7))=Value.bool false,Qb z,FO b1 o2 c.Aa,DJ p,p<c.Aa.xs.length,Di,Old w b1 (o2+p*8+6) (.slice y8.Ai.a y8.Ai.xs.length y8.Ai.cap),FO b9 o10 y8.Ai,(0:Int)=((0:Nat):Int),DJ k,0≤k,k≤y8.Ai.cap,y8.Ai.cap=0∨(0:Nat)=0] [(1,Ac p),(2,Ac k),(3,pt z),(D5 z),(Et z),(Nj k b9 o10 y8),(KW k),(70,i6 0)] rfl ⟨by simp[h40],rfl,FP ha3,rfl,(by omega),rfl,Aw (hc6 6 _ rfl),FP ha11,rfl,rfl,(by omega),(by omega),.inr rfl,Af⟩ ?_
    refine DY (fun m a w'=>∃ (n43:Nat) (i:Nat),m=k - i∧n38≤n43∧(i≤k)∧(∀ a,a<i→U4 c p k a=false)∧St 133 [(1,Ac p),(2,Ac k),(3,pt z),(D5 z),(Et z),(Nj k b9 o10 y8),(KW k),(70,Ac i)] [] ⟨w,n43,[(Ak w),(Ip z c),(KN z),(IA z y16)]⟩ a w') (k - 0) ?_ ?_
    ·intro a w' hs;exact⟨n38,0,rfl,Nat.le_refl _,Nat.zero_le _,fun i hi=>absurd hi (Nat.not_lt_zero i),hs⟩
    rintro m a w' ⟨n43,i,rfl,hn42,hki,hf,hs⟩
    refine(?_:G Tryd.prog 133 [(1,Ac p),(2,Ac k),(3,pt z),(D5 z),(Et z),(Nj k b9 o10 y8),(KW k),(70,Ac i)] [] ⟨w,n43,[(Ak w),(Ip z c),(KN z),(IA z y16)]⟩ _ _ _) a w' hs
    clear hs a w'
    have hbb:Ol c (Ep c p k)=true:=(by have ek:Ep c p k=y16:=(by dsimp only[Ep];rw[←hy8,←hy16]);rw[ek];unfold Ol win;simp;omega)
    refine DW ?_
    by_cases h44:(i:Int)<((k - 0:Nat):Int)
    ·refine Az 10 0 [1] [[oT]] [BT ((i:Int)<((k - 0:Nat):Int))] [(1,Ac p),(2,Ac k),(3,pt z),(D5 z),(Et z),(Nj k b9 o10 y8),(KW k),(70,Ac i),(71,.bool true)] rfl ⟨bt,Af⟩ ?_
     have hc45:=hc12 i (show i<y8.Ai.xs.length by omega)
     have he46:=(he7.Ai).2 i (show i<y8.Ai.xs.length by omega)
     obtain⟨y47,hy47⟩:∃ y_,y_=gd y8.Ai.xs i:=⟨_,rfl⟩
     rw[←hy47]at he46 hc45
     have hfy47:(-9223372036854775808:Int)≤y47.Frame∧y47.Frame≤9223372036854775807:=he46.Frame
     refine q_c 5 8 [] [[(oi i),(ol 0 (BD.arr y47)),o0,(an 4 4)],[o0,(a1 3),o0,(a1 3),o0,(a1 4),o0,(a1 4)]] [DJ i,i<k - 0,Di,He w b9 (o10+i*4) (BD.arr y47),Qb n43,Qb n43,Qb n43,Qb n43,Qb (z+2),Qb (z+2),Qb n43,Qb n43] [(1,Ac p),(2,Ac k),(3,pt z),(D5 z),(Et z),(Nj k b9 o10 y8),(KW k),(70,Ac i),(75,i6 y16.BP),(77,i6 y16.BH),(79,i6 y47.BP),(81,i6 y47.BH)] ⟨w,n43+1,[(Ak w),(Ip z c),(KN z),(IA z y16),(bk n43 (BD.arr y47) 103)]⟩ rfl ⟨rfl,(by omega),rfl,EH hc45,rfl,rfl,rfl,rfl,rfl,rfl,rfl,rfl,Af⟩ ?_
     have hm49:=hb p i (by omega) (by rw[←hy8];omega) (by omega);dsimp only[Ep]at hm49;rw[←hy8,←hy47]at hm49;unfold Bd at hm49
     refine BI 99 #[i6 y16.BP,i6 y16.BH,i6 y47.BP,i6 y47.BH] (some 82) (.bool (meet y16.BP y16.BH y47.BP y47.BH)) (fun w48 hw48=>Q5 w48 y16.BP y16.BH y47.BP y47.BH (by omega) (by omega) (by omega) (by omega)) (fun n50 (hn51:n43+1≤n50) => ?_)
     refine DZ [1,2,3,6,7,68,69,70,82] [(1,Ac p),(2,Ac k),(3,pt z),(D5 z),(Et z),(Nj k b9 o10 y8),(KW k),(70,Ac i),(82,.bool (meet y16.BP y16.BH y47.BP y47.BH))] ?_
     refine ZT (by kernel_rfl) ?_
     refine IV ?_
     by_cases h52:(meet y16.BP y16.BH y47.BP y47.BH)=true
     ·refine Az 3 2 [3] [[o0,o0]] [Value.bool (meet y16.BP y16.BH y47.BP y47.BH)=Value.bool true] [(D5 z),(83,Ac p),(84,Ac k)] rfl ⟨(congrArg Value.bool h52),Af⟩ ?_
      refine BI 96 #[(Ac p),Ac k] (some 85) (.agg #[(Ac p),Ac k]) (fun w53 hw53=>F5 w53 (p:Int) (k:Int)) (fun n54 (hn55:n50≤n54) => ?_)
      refine Gi 3 0 [] [[o0,(an 3 2)]] [Qb (z+1),Qb (z+1),Qb (z+1)] [(D5 z)] ⟨w,n54,[(Ak w),(Ip z c),(bk (z+1) #[i6 410,Ac p,Ac k] 111),(IA z y16),(bk n43 (BD.arr y47) 103)]⟩ rfl ⟨rfl,rfl,rfl,Af⟩ ?_
      refine AO [.at 2,.at 2,.at 2] [Qb (z+1),Qb (z+1),Qb (z+1)] (.agg #[i6 410,Ac p,Ac k]) ⟨rfl,rfl,rfl,Af⟩ ?_
      intro w56 hw56
      refine⟨congrArg Ending.returned (?_:Value.agg #[i6 410,Ac p,Ac k] = .agg (Am.arr (Gt c p k))),Bi hw56⟩
      have hq:Gt c p k=_:=regQ_b hbb (range_any (k:=i) (by omega) (by have ek:Ep c p k=y16:=(by dsimp only[Ep];rw[←hy8,←hy16]);have ei:Ep c p i=y47:=(by dsimp only[Ep];rw[←hy8,←hy47]);unfold U4;rw[ek,ei];exact h52))
      exact(congrArg (fun t=>Value.agg (Am.arr t)) hq).symm
     refine Az 6 0 [2] [[(ov (i6 ((i+1:Nat):Int))),o0]] [Value.bool (meet y16.BP y16.BH y47.BP y47.BH)=Value.bool false,Wr ((i:Int)+1) (((i+1:Nat):Int))] [(1,Ac p),(2,Ac k),(3,pt z),(D5 z),(Et z),(Nj k b9 o10 y8),(KW k),(70,i6 ((i+1:Nat):Int))] rfl ⟨(congrArg Value.bool (Bool.eq_false_iff.2 h52)),CB,Af⟩ ?_
     refine BX [0,1,2,3] [(Ak w),(Ip z c),(KN z),(IA z y16)] rfl rfl ?_
     refine BR [1,2,3,6,7,68,69,70] [(1,Ac p),(2,Ac k),(3,pt z),(D5 z),(Et z),(Nj k b9 o10 y8),(KW k),(70,i6 ((i+1:Nat):Int))] ?_
     refine Cf (fun a w' hs=>⟨k - (i+1),by omega,n50,(i+1),rfl,by omega,by omega,Ha hf (by have ek:Ep c p k=y16:=(by dsimp only[Ep];rw[←hy8,←hy16]);have ei:Ep c p i=y47:=(by dsimp only[Ep];rw[←hy8,←hy47]);unfold U4;rw[ek,ei];simpa using h52),hs⟩)
    refine Az 16 0 [0] [[oF],[o0,(Gy 1 b1 o2 c.Aa),o0,(ov (i6 ((p+1:Nat):Int))),⟨.slc 0 (p+1) false,none⟩,o0,o0]] [BF ((i:Int)<((k - 0:Nat):Int)),Qb z,FO b1 o2 c.Aa,Wr ((p:Int)+1) (((p+1:Nat):Int)),(0:Int)=((0:Nat):Int),(((p+1:Nat):Int):Int)=((p+1:Nat):Int),0≤p+1,p+1≤c.Aa.cap,c.Aa.cap=0∨(0:Nat)=0] [(1,Ac p),(2,Ac k),(D5 z),(Et z),(GU p c b1 o2),(Gg p),(94,i6 0)] rfl ⟨bf,rfl,FP ha3,CB,rfl,rfl,(by omega),(by omega),.inr rfl,Af⟩ ?_
    refine DY (fun m a w'=>∃ (n58:Nat) (q:Nat),m=p+1 - q∧n43≤n58∧(q≤p+1)∧(∀ a,a<q→ZV c p k a=false)∧St 133 [(1,Ac p),(2,Ac k),(D5 z),(Et z),(GU p c b1 o2),(Gg p),(94,Ac q)] [] ⟨w,n58,[(Ak w),(Ip z c),(KN z),(IA z y16)]⟩ a w') (p+1 - 0) ?_ ?_
    ·intro a w' hs;exact⟨n43,0,rfl,Nat.le_refl _,Nat.zero_le _,fun i hi=>absurd hi (Nat.not_lt_zero i),hs⟩
    rintro m a w' ⟨n58,q,rfl,hn57,hkq,hg,hs⟩
    refine(?_:G Tryd.prog 133 [(1,Ac p),(2,Ac k),(D5 z),(Et z),(GU p c b1 o2),(Gg p),(94,Ac q)] [] ⟨w,n58,[(Ak w),(Ip z c),(KN z),(IA z y16)]⟩ _ _ _) a w' hs
    clear hs a w'
    have hf0:(List.range k).any (U4 c p k)=false:=JK (fun a ha=>hf a (by omega))
    refine DW ?_
    by_cases h59:(q:Int)<((p+1 - 0:Nat):Int)
    ·refine Az 10 0 [1] [[oT]] [BT ((q:Int)<((p+1 - 0:Nat):Int))] [(1,Ac p),(2,Ac k),(D5 z),(Et z),(GU p c b1 o2),(Gg p),(94,Ac q),(95,.bool true)] rfl ⟨bt,Af⟩ ?_
     have hc60:=hc4 q (show q<c.Aa.xs.length by omega)
     have he61:=(hc.Aa).2 q (show q<c.Aa.xs.length by omega)
     obtain⟨y62,hy62⟩:∃ y_,y_=gd c.Aa.xs q:=⟨_,rfl⟩
     rw[←hy62]at he61 hc60
     (try rw[←hy62]at hk hrl hrc)
     refine q_c 8 0 [] [[o0,(oi q),(ol 0 (Aq.arr y62)),o0,o0,(an 8 4)],[o0,(a1 4),o0,o0]] [DJ q,q<p+1 - 0,Di,He w b1 (o2+q*8) (Aq.arr y62),Qb n58,Qb n58,Qb n58,Qb n58,Qb n58,Qb n58,Qb n58,Qb n58,Qb n58] [(1,Ac p),(2,Ac k),(D5 z),(Et z),(10,Ac q),(GU p c b1 o2),(Gg p),(94,Ac q),(NM y62),(Jd y62),(102,i6 0)] ⟨w,n58+1,(N8 z y16 n58 y62 c w)⟩ rfl ⟨rfl,(by omega),rfl,EH hc60,rfl,rfl,rfl,rfl,rfl,rfl,rfl,rfl,rfl,Af⟩ ?_
     refine DY (fun m a w'=>∃ (n64:Nat) (n:Nat),m=y62.Ai.xs.length - n∧n58+1≤n64∧(n≤y62.Ai.xs.length)∧(∀ a,a<n→VG c p k q a=false)∧St 133 [(1,Ac p),(2,Ac k),(D5 z),(Et z),(10,Ac q),(GU p c b1 o2),(Gg p),(94,Ac q),(NM y62),(Jd y62),(102,Ac n)] [] ⟨w,n64,(N8 z y16 n58 y62 c w)⟩ a w') (y62.Ai.xs.length - 0) ?_ ?_
     ·intro a w' hs;exact⟨(n58+1),0,rfl,Nat.le_refl _,Nat.zero_le _,fun i hi=>absurd hi (Nat.not_lt_zero i),hs⟩
     rintro m a w' ⟨n64,n,rfl,hn63,hkn,hh,hs⟩
     refine(?_:G Tryd.prog 133 [(1,Ac p),(2,Ac k),(D5 z),(Et z),(10,Ac q),(GU p c b1 o2),(Gg p),(94,Ac q),(NM y62),(Jd y62),(102,Ac n)] [] ⟨w,n64,(N8 z y16 n58 y62 c w)⟩ _ _ _) a w' hs
     clear hs a w'
     have hyl:=he61.Ai.1.len
     refine DW ?_
     by_cases h65:(n:Int)<(y62.Ai.xs.length:Int)
     ·refine Az 10 0 [1] [[oT]] [BT ((n:Int)<(y62.Ai.xs.length:Int))] [(1,Ac p),(2,Ac k),(D5 z),(Et z),(10,Ac q),(GU p c b1 o2),(Gg p),(94,Ac q),(NM y62),(Jd y62),(102,Ac n),(103,.bool true)] rfl ⟨bt,Af⟩ ?_
      obtain⟨b66,o67,ha68,hF70,hc69⟩:=(he61.Ai).1.all (show 0<y62.Ai.xs.length by omega)
      replace ha68:y62.Ai.a=some ⟨b66,o67,none⟩:=ha68
      refine Ku [(1,Ac p),(2,Ac k),(D5 z),(Et z),(10,Ac q),(GU p c b1 o2),(Gg p),(94,Ac q),(LQ y62 b66 o67),(Jd y62),(102,Ac n),(103,.bool true)] (by(try dsimp only[KN,IA,Qk,Ip,LQ,GU,NM,Nj,Jd,Gg,D5,Et,KW,N8]);simp only[ha68]) ?_
      have hc71:=hc69 n (show n<y62.Ai.xs.length by omega)
      have he72:=(he61.Ai).2 n (show n<y62.Ai.xs.length by omega)
      obtain⟨y73,hy73⟩:∃ y_,y_=gd y62.Ai.xs n:=⟨_,rfl⟩
      rw[←hy73]at he72 hc71
      have hfy73:(-9223372036854775808:Int)≤y73.Frame∧y73.Frame≤9223372036854775807:=he72.Frame
      refine q_c 4 0 [] [[o0,(oi n),(ol 0 (BD.arr y73)),o0,o0,(an 4 5)]] [DJ n,n<y62.Ai.xs.length,Di,He w b66 (o67+n*4) (BD.arr y73),Qb n64,Qb n64,Qb n64,Qb n64] [(1,Ac p),(2,Ac k),(D5 z),(Et z),(10,Ac q),(GU p c b1 o2),(Gg p),(94,Ac q),(LQ y62 b66 o67),(Jd y62),(102,Ac n),(13,pt n64),(12,Ac n)] ⟨w,n64+1,[(Ak w),(Ip z c),(KN z),(IA z y16),(Qk n58 y62),(bk n64 (BD.arr y73) 103)]⟩ rfl ⟨rfl,(by omega),rfl,EH hc71,rfl,rfl,rfl,rfl,Af⟩ ?_
      by_cases h74:(q:Int)<(p:Int)
      ·refine Az 1 17 [] [[o0,o0,oT,o0,o0,o0,o0,(a1 3),o0,(a1 3),o0,(a1 5),o0,(a1 5)]] [BT ((q:Int)<(p:Int)),Qb (z+2),Qb (z+2),Qb n64,Qb n64] [(1,Ac p),(2,Ac k),(D5 z),(Et z),(10,Ac q),(GU p c b1 o2),(Gg p),(94,Ac q),(LQ y62 b66 o67),(Jd y62),(102,Ac n),(115,.bool true),(117,i6 y16.Frame),(119,i6 y16.BH),(121,i6 y73.Frame),(123,i6 y73.BH)] rfl ⟨bt,rfl,rfl,rfl,rfl,Af⟩ ?_
       have hm76:=hb q n (by omega) (by rw[←hy62];omega) (by omega);dsimp only[Ep]at hm76;rw[←hy62,←hy73]at hm76;unfold Bd at hm76
       refine BI 99 #[i6 y16.Frame,i6 y16.BH,i6 y73.Frame,i6 y73.BH] (some 124) (.bool (meet y16.Frame y16.BH y73.Frame y73.BH)) (fun w75 hw75=>Q5 w75 y16.Frame y16.BH y73.Frame y73.BH (by omega) (by omega) (by omega) (by omega)) (fun n77 (hn78:n64+1≤n77) => ?_)
       refine Cc 2 0 [] [[o0]] [] [(1,Ac p),(2,Ac k),(D5 z),(Et z),(10,Ac q),(GU p c b1 o2),(Gg p),(94,Ac q),(LQ y62 b66 o67),(Jd y62),(102,Ac n),(125,.bool (meet y16.Frame y16.BH y73.Frame y73.BH))] rfl Af ?_
       by_cases h79:(meet y16.Frame y16.BH y73.Frame y73.BH)=true
       ·refine Az 3 2 [3] [[o0,o0]] [Value.bool (meet y16.Frame y16.BH y73.Frame y73.BH)=Value.bool true] [(D5 z),(126,Ac p),(127,Ac k)] rfl ⟨(congrArg Value.bool h79),Af⟩ ?_
        refine BI 96 #[(Ac p),Ac k] (some 128) (.agg #[(Ac p),Ac k]) (fun w80 hw80=>F5 w80 (p:Int) (k:Int)) (fun n81 (hn82:n77≤n81) => ?_)
        refine Gi 3 0 [] [[o0,(an 3 2)]] [Qb (z+1),Qb (z+1),Qb (z+1)] [(D5 z)] ⟨w,n81,[(Ak w),(Ip z c),(bk (z+1) #[i6 411,Ac p,Ac k] 111),(IA z y16),(Qk n58 y62),(bk n64 (BD.arr y73) 103)]⟩ rfl ⟨rfl,rfl,rfl,Af⟩ ?_
        refine AO [.at 2,.at 2,.at 2] [Qb (z+1),Qb (z+1),Qb (z+1)] (.agg #[i6 411,Ac p,Ac k]) ⟨rfl,rfl,rfl,Af⟩ ?_
        intro w83 hw83
        refine⟨congrArg Ending.returned (?_:Value.agg #[i6 411,Ac p,Ac k] = .agg (Am.arr (Gt c p k))),Bi hw83⟩
        have hq:Gt c p k=_:=Za5 hbb hf0 (range_any (k:=q) (by omega) (range_any (k:=n) (by dsimp only[Gz];rw[←hy62];omega) (by have ek:Ep c p k=y16:=(by dsimp only[Ep];rw[←hy8,←hy16]);have en:Ep c q n=y73:=(by dsimp only[Ep];rw[←hy62,←hy73]);unfold VG;rw[ek,en,h79];simp;omega)))
        exact(congrArg (fun t=>Value.agg (Am.arr t)) hq).symm
       refine Az 6 0 [2] [[(ov (i6 ((n+1:Nat):Int))),o0]] [Value.bool (meet y16.Frame y16.BH y73.Frame y73.BH)=Value.bool false,Wr ((n:Int)+1) (((n+1:Nat):Int))] [(1,Ac p),(2,Ac k),(D5 z),(Et z),(10,Ac q),(GU p c b1 o2),(Gg p),(94,Ac q),(LQ y62 b66 o67),(Jd y62),(Oa n)] rfl ⟨(congrArg Value.bool (Bool.eq_false_iff.2 h79)),CB,Af⟩ ?_
       refine BX [0,1,2,3,4] (N8 z y16 n58 y62 c w) rfl rfl ?_
       refine FT [1,2,6,7,10,92,93,94,100,101,102] [(1,Ac p),(2,Ac k),(D5 z),(Et z),(10,Ac q),(GU p c b1 o2),(Gg p),(94,Ac q),(NM y62),(Jd y62),(Oa n)] (by(try dsimp only[KN,IA,Qk,Ip,LQ,GU,NM,Nj,Jd,Gg,Oa,D5,Et,KW,N8]);simp only[ha68];rfl) ?_
       refine Cf (fun a w' hs=>⟨y62.Ai.xs.length - (n+1),by omega,n77,(n+1),rfl,by omega,by omega,Ha hh (by have ek:Ep c p k=y16:=(by dsimp only[Ep];rw[←hy8,←hy16]);have en:Ep c q n=y73:=(by dsimp only[Ep];rw[←hy62,←hy73]);unfold VG;rw[ek,en];simp[h79] <;> omega),hs⟩)
      by_cases h84:(n:Int)<(k:Int)
      ·refine Az 1 17 [] [[o0,o0,oF,o0,o0,o0,oT,o0,o0,o0,(a1 3),o0,(a1 3),o0,(a1 5),o0,(a1 5)]] [BF ((q:Int)<(p:Int)),BT ((n:Int)<(k:Int)),Qb (z+2),Qb (z+2),Qb n64,Qb n64] [(1,Ac p),(2,Ac k),(D5 z),(Et z),(10,Ac q),(GU p c b1 o2),(Gg p),(94,Ac q),(LQ y62 b66 o67),(Jd y62),(102,Ac n),(115,.bool true),(117,i6 y16.Frame),(119,i6 y16.BH),(121,i6 y73.Frame),(123,i6 y73.BH)] rfl ⟨bf,bt,rfl,rfl,rfl,rfl,Af⟩ ?_
       have hm86:=hb q n (by omega) (by rw[←hy62];omega) (by omega);dsimp only[Ep]at hm86;rw[←hy62,←hy73]at hm86;unfold Bd at hm86
       refine BI 99 #[i6 y16.Frame,i6 y16.BH,i6 y73.Frame,i6 y73.BH] (some 124) (.bool (meet y16.Frame y16.BH y73.Frame y73.BH)) (fun w85 hw85=>Q5 w85 y16.Frame y16.BH y73.Frame y73.BH (by omega) (by omega) (by omega) (by omega)) (fun n87 (hn88:n64+1≤n87) => ?_)
       refine Cc 2 0 [] [[o0]] [] [(1,Ac p),(2,Ac k),(D5 z),(Et z),(10,Ac q),(GU p c b1 o2),(Gg p),(94,Ac q),(LQ y62 b66 o67),(Jd y62),(102,Ac n),(125,.bool (meet y16.Frame y16.BH y73.Frame y73.BH))] rfl Af ?_
       by_cases h89:(meet y16.Frame y16.BH y73.Frame y73.BH)=true
       ·refine Az 3 2 [3] [[o0,o0]] [Value.bool (meet y16.Frame y16.BH y73.Frame y73.BH)=Value.bool true] [(D5 z),(126,Ac p),(127,Ac k)] rfl ⟨(congrArg Value.bool h89),Af⟩ ?_
        refine BI 96 #[(Ac p),Ac k] (some 128) (.agg #[(Ac p),Ac k]) (fun w90 hw90=>F5 w90 (p:Int) (k:Int)) (fun n91 (hn92:n87≤n91) => ?_)
        refine Gi 3 0 [] [[o0,(an 3 2)]] [Qb (z+1),Qb (z+1),Qb (z+1)] [(D5 z)] ⟨w,n91,[(Ak w),(Ip z c),(bk (z+1) #[i6 411,Ac p,Ac k] 111),(IA z y16),(Qk n58 y62),(bk n64 (BD.arr y73) 103)]⟩ rfl ⟨rfl,rfl,rfl,Af⟩ ?_
        refine AO [.at 2,.at 2,.at 2] [Qb (z+1),Qb (z+1),Qb (z+1)] (.agg #[i6 411,Ac p,Ac k]) ⟨rfl,rfl,rfl,Af⟩ ?_
        intro w93 hw93
        refine⟨congrArg Ending.returned (?_:Value.agg #[i6 411,Ac p,Ac k] = .agg (Am.arr (Gt c p k))),Bi hw93⟩
        have hq:Gt c p k=_:=Za5 hbb hf0 (range_any (k:=q) (by omega) (range_any (k:=n) (by dsimp only[Gz];rw[←hy62];omega) (by have ek:Ep c p k=y16:=(by dsimp only[Ep];rw[←hy8,←hy16]);have en:Ep c q n=y73:=(by dsimp only[Ep];rw[←hy62,←hy73]);unfold VG;rw[ek,en,h89];simp;omega)))
        exact(congrArg (fun t=>Value.agg (Am.arr t)) hq).symm
       refine Az 6 0 [2] [[(ov (i6 ((n+1:Nat):Int))),o0]] [Value.bool (meet y16.Frame y16.BH y73.Frame y73.BH)=Value.bool false,Wr ((n:Int)+1) (((n+1:Nat):Int))] [(1,Ac p),(2,Ac k),(D5 z),(Et z),(10,Ac q),(GU p c b1 o2),(Gg p),(94,Ac q),(LQ y62 b66 o67),(Jd y62),(Oa n)] rfl ⟨(congrArg Value.bool (Bool.eq_false_iff.2 h89)),CB,Af⟩ ?_
       refine BX [0,1,2,3,4] (N8 z y16 n58 y62 c w) rfl rfl ?_
       refine FT [1,2,6,7,10,92,93,94,100,101,102] [(1,Ac p),(2,Ac k),(D5 z),(Et z),(10,Ac q),(GU p c b1 o2),(Gg p),(94,Ac q),(NM y62),(Jd y62),(Oa n)] (by(try dsimp only[KN,IA,Qk,Ip,LQ,GU,NM,Nj,Jd,Gg,Oa,D5,Et,KW,N8]);simp only[ha68];rfl) ?_
       refine Cf (fun a w' hs=>⟨y62.Ai.xs.length - (n+1),by omega,n87,(n+1),rfl,by omega,by omega,Ha hh (by have ek:Ep c p k=y16:=(by dsimp only[Ep];rw[←hy8,←hy16]);have en:Ep c q n=y73:=(by dsimp only[Ep];rw[←hy62,←hy73]);unfold VG;rw[ek,en];simp[h89] <;> omega),hs⟩)
      refine Az 9 0 [0] [[o0,o0,oF,o0,o0,o0,oF,o0,o0,o0],[(ov (i6 ((n+1:Nat):Int))),o0]] [BF ((q:Int)<(p:Int)),BF ((n:Int)<(k:Int)),Wr ((n:Int)+1) (((n+1:Nat):Int))] [(1,Ac p),(2,Ac k),(D5 z),(Et z),(10,Ac q),(GU p c b1 o2),(Gg p),(94,Ac q),(LQ y62 b66 o67),(Jd y62),(Oa n)] rfl ⟨bf,bf,CB,Af⟩ ?_
      refine BX [0,1,2,3,4] (N8 z y16 n58 y62 c w) rfl rfl ?_
      refine FT [1,2,6,7,10,92,93,94,100,101,102] [(1,Ac p),(2,Ac k),(D5 z),(Et z),(10,Ac q),(GU p c b1 o2),(Gg p),(94,Ac q),(NM y62),(Jd y62),(Oa n)] (by(try dsimp only[KN,IA,Qk,Ip,LQ,GU,NM,Nj,Jd,Gg,Oa,D5,Et,KW,N8]);simp only[ha68];rfl) ?_
      refine Cf (fun a w' hs=>⟨y62.Ai.xs.length - (n+1),by omega,(n64+1),(n+1),rfl,by omega,by omega,Ha hh (by have ek:Ep c p k=y16:=(by dsimp only[Ep];rw[←hy8,←hy16]);have en:Ep c q n=y73:=(by dsimp only[Ep];rw[←hy62,←hy73]);unfold VG;rw[ek,en];simp <;> omega),hs⟩)
     refine Az 13 0 [0] [[oF],[(ov (i6 ((q+1:Nat):Int))),o0]] [BF ((n:Int)<(y62.Ai.xs.length:Int)),Wr ((q:Int)+1) (((q+1:Nat):Int))] [(1,Ac p),(2,Ac k),(D5 z),(Et z),(GU p c b1 o2),(Gg p),(94,i6 ((q+1:Nat):Int))] rfl ⟨bf,CB,Af⟩ ?_
     refine BX [0,1,2,3] [(Ak w),(Ip z c),(KN z),(IA z y16)] rfl rfl ?_
     refine BR [1,2,6,7,92,93,94] [(1,Ac p),(2,Ac k),(D5 z),(Et z),(GU p c b1 o2),(Gg p),(94,i6 ((q+1:Nat):Int))] ?_
     refine Cf (fun a w' hs=>⟨p+1 - (q+1),by omega,n64,(q+1),rfl,by omega,by omega,Ha hg (JK (fun i hi=>hh i (by dsimp only[Gz]at hi;rw[←hy62]at hi;omega))),hs⟩)
    refine Az 15 0 [0] [[oF],[(oa [.via 0 (i6 0),.via 0 (i6 0),.via 0 (i6 0)]),(an 3 2)]] [BF ((q:Int)<((p+1 - 0:Nat):Int)),Old w 0 0 (i6 0),Old w 0 1 (i6 0),Old w 0 2 (i6 0),Qb (z+1),Qb (z+1),Qb (z+1)] [(D5 z)] rfl ⟨bf,Aw (hL.2 0 _ rfl),Aw (hL.2 1 _ rfl),Aw (hL.2 2 _ rfl),rfl,rfl,rfl,Af⟩ ?_
    refine AO [.at 2,.at 2,.at 2] [Qb (z+1),Qb (z+1),Qb (z+1)] (.agg #[i6 0,i6 0,i6 0]) ⟨rfl,rfl,rfl,Af⟩ ?_
    intro w94 hw94
    refine⟨congrArg Ending.returned (?_:Value.agg #[i6 0,i6 0,i6 0] = .agg (Am.arr (Gt c p k))),Bi hw94⟩
    have hq:Gt c p k=_:=regQ_d hbb hf0 (JK (fun i hi=>hg i (by omega)))
    exact(congrArg (fun t=>Value.agg (Am.arr t)) hq).symm
   have hd95:=Ko h40
   refine Cc 5 2 [1] [[(ov (.bool true)),o0],[o0,o0]] [Value.bool (!(win y16.JC 1 7))=Value.bool true] [(D5 z),(57,Ac p),(58,Ac k)] rfl ⟨by simp[h40],Af⟩ ?_
   refine BI 96 #[(Ac p),Ac k] (some 59) (.agg #[(Ac p),Ac k]) (fun w96 hw96=>F5 w96 (p:Int) (k:Int)) (fun n97 (hn98:n38≤n97) => ?_)
   refine Gi 3 0 [] [[o0,(an 3 2)]] [Qb (z+1),Qb (z+1),Qb (z+1)] [(D5 z)] ⟨w,n97,[(Ak w),(Ip z c),(U2 z p k),(IA z y16)]⟩ rfl ⟨rfl,rfl,rfl,Af⟩ ?_
   refine AO [.at 2,.at 2,.at 2] [Qb (z+1),Qb (z+1),Qb (z+1)] (.agg #[i6 409,Ac p,Ac k]) ⟨rfl,rfl,rfl,Af⟩ ?_
   intro w99 hw99
   refine⟨congrArg Ending.returned (?_:Value.agg #[i6 409,Ac p,Ac k] = .agg (Am.arr (Gt c p k))),Bi hw99⟩
   have hq:Gt c p k=_:=TD (by have ek:Ep c p k=y16:=(by dsimp only[Ep];rw[←hy8,←hy16]);rw[ek];unfold Ol win;simp;omega)
   exact(congrArg (fun t=>Value.agg (Am.arr t)) hq).symm
  have hd100:=Ko h25
  refine Cc 5 2 [1] [[(ov (.bool true)),o0,o0,o0,o0,o0,o0,o0],[o0,o0]] [Value.bool (!(win y16.BH 1 (256 - y16.BP)))=Value.bool true] [(D5 z),(57,Ac p),(58,Ac k)] rfl ⟨by simp[h25],Af⟩ ?_
  refine BI 96 #[(Ac p),Ac k] (some 59) (.agg #[(Ac p),Ac k]) (fun w101 hw101=>F5 w101 (p:Int) (k:Int)) (fun n102 (hn103:n23≤n102) => ?_)
  refine Gi 3 0 [] [[o0,(an 3 2)]] [Qb (z+1),Qb (z+1),Qb (z+1)] [(D5 z)] ⟨w,n102,[(Ak w),(Ip z c),(U2 z p k),(IA z y16)]⟩ rfl ⟨rfl,rfl,rfl,Af⟩ ?_
  refine AO [.at 2,.at 2,.at 2] [Qb (z+1),Qb (z+1),Qb (z+1)] (.agg #[i6 409,Ac p,Ac k]) ⟨rfl,rfl,rfl,Af⟩ ?_
  intro w104 hw104
  refine⟨congrArg Ending.returned (?_:Value.agg #[i6 409,Ac p,Ac k] = .agg (Am.arr (Gt c p k))),Bi hw104⟩
  have hq:Gt c p k=_:=TD (by have ek:Ep c p k=y16:=(by dsimp only[Ep];rw[←hy8,←hy16]);rw[ek];unfold Ol win;simp;omega)
  exact(congrArg (fun t=>Value.agg (Am.arr t)) hq).symm
 have hd105:=Ko h20
 refine Cc 5 2 [1] [[(ov (.bool true)),o0,o0,o0,o0,o0,o0,o0,o0],[o0,o0]] [Value.bool (!(win y16.BP 0 255))=Value.bool true] [(D5 z),(57,Ac p),(58,Ac k)] rfl ⟨by simp[h20],Af⟩ ?_
 refine BI 96 #[(Ac p),Ac k] (some 59) (.agg #[(Ac p),Ac k]) (fun w106 hw106=>F5 w106 (p:Int) (k:Int)) (fun n107 (hn108:n18≤n107) => ?_)
 refine Gi 3 0 [] [[o0,(an 3 2)]] [Qb (z+1),Qb (z+1),Qb (z+1)] [(D5 z)] ⟨w,n107,[(Ak w),(Ip z c),(U2 z p k),(IA z y16)]⟩ rfl ⟨rfl,rfl,rfl,Af⟩ ?_
 refine AO [.at 2,.at 2,.at 2] [Qb (z+1),Qb (z+1),Qb (z+1)] (.agg #[i6 409,Ac p,Ac k]) ⟨rfl,rfl,rfl,Af⟩ ?_
 intro w109 hw109
 refine⟨congrArg Ending.returned (?_:Value.agg #[i6 409,Ac p,Ac k] = .agg (Am.arr (Gt c p k))),Bi hw109⟩
 have hq:Gt c p k=_:=TD (by have ek:Ep c p k=y16:=(by dsimp only[Ep];rw[←hy8,←hy16]);rw[ek];unfold Ol win;simp;omega)
 exact(congrArg (fun t=>Value.agg (Am.arr t)) hq).symm
def Fq(o:Am)(f:Nat→Am)(n:Nat):Am:=Ba (o :: (List.range n).map f)
theorem ZB{a b:List Am}:Ba (a++b)=if Ba a=D9 then Ba b else Ba a:=by
 induction a with
 | nil=>rw[List.nil_append,if_pos (show Ba []=D9 from rfl)]
 | cons x r ih =>
  show(if x=D9 then Ba (r++b)else x)=if(if x=D9 then Ba r else x)=D9 then Ba b else(if x=D9 then Ba r else x)
  by_cases h:x=D9
  ·rw[if_pos h,if_pos h];exact ih
  rw[if_neg h,if_neg h,if_neg h]
theorem Zt(x:Am):Ba [x]=x:=by
 unfold Ba
 by_cases h:x=D9
 ·rw[if_pos h,h];rfl
 rw[if_neg h]
theorem Pz(o:Am)(f:Nat→Am):Fq o f 0=o:=Zt o
theorem PD{o:Am}{f:Nat→Am}{n:Nat}(h:Fq o f n=D9):Fq o f (n+1)=f n:=by
 unfold Fq at h ⊢
 rw[List.range_succ,List.map_append,←List.cons_append,ZB,if_pos h]
 exact Zt _
theorem MJ{o:Am}{f:Nat→Am}{k:Nat}(h:Fq o f k≠D9):∀ {n:Nat},k≤n→Fq o f n=Fq o f k
 | 0,hn=>by rw[Nat.le_zero.1 hn]
 | n+1,hn=>by
  by_cases e:k=n+1
  ·rw[e]
  have ih:=MJ h (n:=n) (by omega)
  have h2:Fq o f n≠D9:=by rw[ih];exact h
  unfold Fq at h2 ih ⊢
  rw[List.range_succ,List.map_append,←List.cons_append,ZB,if_neg h2]
  exact ih
theorem U1{o:Am}{f:Nat→Am}{n:Nat}(h:Fq o f n=D9):o=D9∧∀ i,i<n→f i=D9:=by
 constructor
 ·by_cases e:o=D9
  ·exact e
  have h1:=MJ (f:=f) (k:=0) (by rw[Pz];exact e) (Nat.zero_le n)
  rw[Pz,h]at h1;exact h1.symm
 intro i hi
 by_cases e1:Fq o f i=D9
 ·by_cases e2:f i=D9
  ·exact e2
  have h3:=PD e1
  have h4:=MJ (k:=i+1) (by rw[h3];exact e2) (show i+1≤n by omega)
  rw[h,h3]at h4;exact h4.symm
 have h4:=MJ e1 (show i≤n by omega)
 rw[h]at h4;exact absurd h4.symm e1
def Jj(c:Aj)(p:Nat):List Am:=[Ae (AC c p) 405 ⟨(p:Int), -1⟩,Ae (win (Gz c p).FX 0 2&&win (Gz c p).Bj 0 15) 406 ⟨(p:Int), -1⟩,Ae (win (Gz c p).FU 0 16&&win (Gz c p).BM 0 16) 407 ⟨(p:Int), -1⟩,Ae (win ((Gz c p).Ai.xs.length:Nat) 1 8) 408 ⟨(p:Int), -1⟩]
def J9(c:Aj)(p:Nat):Am:=Fq (Ba (Jj c p)) (Gt c p) (Gz c p).Ai.xs.length
def Jl(c:Aj)(p:Nat):List Am:=[Ae (win (Gz c p).Entry 0 4095&&Gs (Gz c p)) 412 ⟨(p:Int), -1⟩,Ae (decide ((Gz c p).Ar.xs.length≤8)) 413 ⟨(p:Int), -1⟩]
def LP(c:Aj)(p k:Nat):Am:=Ae (win (prtC c p k).Channel 0 ((c.Ah.xs.length:Nat) - 1)) 414 ⟨(p:Int),(k:Int)⟩
def ED(c:Aj)(p:Nat):Am:=if J9 c p=D9 then Fq (Ba (Jl c p)) (LP c p) (Gz c p).Ar.xs.length else J9 c p
theorem TW{b:Bool}{e:Int}{w:Ja}(he:e≠0):Ae b e w=D9↔b=true:=by
 unfold Ae D9
 cases b
 ·simp[he]
 simp
theorem TP{c:Aj}{p:Nat}(h:ED c p=D9):J9 c p=D9:=by
 unfold ED at h
 by_cases hb:J9 c p=D9
 ·exact hb
 rw[if_neg hb]at h;exact absurd h hb
theorem Ua{c:Aj}{p:Nat}(hF:c.Frames≤1024)(h:J9 c p=D9):∀ n,n<(Gz c p).Ai.xs.length→Bd (Ep c p n):=fun n hn=>Zu hF (XR ((U1 h).2 n hn))
theorem bd_all{c:Aj}{p k:Nat}(hF:1≤c.Frames∧c.Frames≤1024)(hpf:∀ q,q<p→ED c q=D9)(hk:∀ i,i<k→Gt c p i=D9):∀ q n,q≤p→n<(gd c.Aa.xs q).Ai.xs.length→(q<p∨n<k)→Bd (Ep c q n):=fun q n hq hn h=>by
 by_cases e:q<p
 ·exact Ua hF.2 (TP (hpf q e)) n hn
 have e2:q=p:=by omega
 subst e2
 exact Zu hF.2 (XR (hk n (by omega)))
section
variable (n35:Nat)(c:Aj)(p:Nat)(y8:Aq)(b43 n32:Nat)(n78 b86:Nat)(n75 n123:Nat)(b131 n120:Nat)(n165 b173:Nat)(n162 n209:Nat)(n220 n232:Nat)(n242 b36:Nat)(b42 b17:Nat)(b79 b85:Nat)(b61 b124:Nat)(b130 b106:Nat)(b166 b172:Nat)(b149 b6:Nat)(k z:Nat)(w:World)(y260:DK)
abbrev JA:=bk n35 #[i6 ((Ae (AC c p) 405 ⟨(p:Int), -1⟩).e),i6 ((Ae (AC c p) 405 ⟨(p:Int), -1⟩).Ag.First),i6 ((Ae (AC c p) 405 ⟨(p:Int), -1⟩).Ag.Second),i6 ((Ae (win y8.Bj 0 15) 406 ⟨(p:Int), -1⟩).e),i6 ((Ae (win y8.Bj 0 15) 406 ⟨(p:Int), -1⟩).Ag.First),i6 ((Ae (win y8.Bj 0 15) 406 ⟨(p:Int), -1⟩).Ag.Second),i6 ((Ae (win y8.BM 0 16) 407 ⟨(p:Int), -1⟩).e),i6 ((Ae (win y8.BM 0 16) 407 ⟨(p:Int), -1⟩).Ag.First),i6 ((Ae (win y8.BM 0 16) 407 ⟨(p:Int), -1⟩).Ag.Second),i6 ((Ae (win (y8.Ai.xs.length:Int) 1 8) 408 ⟨(p:Int), -1⟩).e),i6 ((Ae (win (y8.Ai.xs.length:Int) 1 8) 408 ⟨(p:Int), -1⟩).Ag.First),i6 ((Ae (win (y8.Ai.xs.length:Int) 1 8) 408 ⟨(p:Int), -1⟩).Ag.Second)] 111
abbrev JD:=bk b43 #[i6 ((Ae (AC c p) 405 ⟨(p:Int), -1⟩).e),i6 ((Ae (AC c p) 405 ⟨(p:Int), -1⟩).Ag.First),i6 ((Ae (AC c p) 405 ⟨(p:Int), -1⟩).Ag.Second),i6 ((Ae (win y8.Bj 0 15) 406 ⟨(p:Int), -1⟩).e),i6 ((Ae (win y8.Bj 0 15) 406 ⟨(p:Int), -1⟩).Ag.First),i6 ((Ae (win y8.Bj 0 15) 406 ⟨(p:Int), -1⟩).Ag.Second),i6 ((Ae (win y8.BM 0 16) 407 ⟨(p:Int), -1⟩).e),i6 ((Ae (win y8.BM 0 16) 407 ⟨(p:Int), -1⟩).Ag.First),i6 ((Ae (win y8.BM 0 16) 407 ⟨(p:Int), -1⟩).Ag.Second),i6 ((Ae (win (y8.Ai.xs.length:Int) 1 8) 408 ⟨(p:Int), -1⟩).e),i6 ((Ae (win (y8.Ai.xs.length:Int) 1 8) 408 ⟨(p:Int), -1⟩).Ag.First),i6 ((Ae (win (y8.Ai.xs.length:Int) 1 8) 408 ⟨(p:Int), -1⟩).Ag.Second)] 111
abbrev Nh:=bk n32 #[i6 ((Ae (AC c p) 405 ⟨(p:Int), -1⟩).e),i6 ((Ae (AC c p) 405 ⟨(p:Int), -1⟩).Ag.First),i6 ((Ae (AC c p) 405 ⟨(p:Int), -1⟩).Ag.Second),i6 ((Ae (win y8.Bj 0 15) 406 ⟨(p:Int), -1⟩).e),i6 ((Ae (win y8.Bj 0 15) 406 ⟨(p:Int), -1⟩).Ag.First),i6 ((Ae (win y8.Bj 0 15) 406 ⟨(p:Int), -1⟩).Ag.Second),i6 ((Ae (win y8.BM 0 16) 407 ⟨(p:Int), -1⟩).e),i6 ((Ae (win y8.BM 0 16) 407 ⟨(p:Int), -1⟩).Ag.First),i6 ((Ae (win y8.BM 0 16) 407 ⟨(p:Int), -1⟩).Ag.Second),i6 ((Ae (win (y8.Ai.xs.length:Int) 1 8) 408 ⟨(p:Int), -1⟩).e),i6 ((Ae (win (y8.Ai.xs.length:Int) 1 8) 408 ⟨(p:Int), -1⟩).Ag.First),i6 ((Ae (win (y8.Ai.xs.length:Int) 1 8) 408 ⟨(p:Int), -1⟩).Ag.Second)] 111
abbrev Lm:=bk n78 #[i6 ((Ae (AC c p) 405 ⟨(p:Int), -1⟩).e),i6 ((Ae (AC c p) 405 ⟨(p:Int), -1⟩).Ag.First),i6 ((Ae (AC c p) 405 ⟨(p:Int), -1⟩).Ag.Second),i6 ((Ae (win y8.Bj 0 15) 406 ⟨(p:Int), -1⟩).e),i6 ((Ae (win y8.Bj 0 15) 406 ⟨(p:Int), -1⟩).Ag.First),i6 ((Ae (win y8.Bj 0 15) 406 ⟨(p:Int), -1⟩).Ag.Second),i6 ((Ae false 407 ⟨(p:Int), -1⟩).e),i6 ((Ae false 407 ⟨(p:Int), -1⟩).Ag.First),i6 ((Ae false 407 ⟨(p:Int), -1⟩).Ag.Second),i6 ((Ae (win (y8.Ai.xs.length:Int) 1 8) 408 ⟨(p:Int), -1⟩).e),i6 ((Ae (win (y8.Ai.xs.length:Int) 1 8) 408 ⟨(p:Int), -1⟩).Ag.First),i6 ((Ae (win (y8.Ai.xs.length:Int) 1 8) 408 ⟨(p:Int), -1⟩).Ag.Second)] 111
abbrev MN:=bk b86 #[i6 ((Ae (AC c p) 405 ⟨(p:Int), -1⟩).e),i6 ((Ae (AC c p) 405 ⟨(p:Int), -1⟩).Ag.First),i6 ((Ae (AC c p) 405 ⟨(p:Int), -1⟩).Ag.Second),i6 ((Ae (win y8.Bj 0 15) 406 ⟨(p:Int), -1⟩).e),i6 ((Ae (win y8.Bj 0 15) 406 ⟨(p:Int), -1⟩).Ag.First),i6 ((Ae (win y8.Bj 0 15) 406 ⟨(p:Int), -1⟩).Ag.Second),i6 ((Ae false 407 ⟨(p:Int), -1⟩).e),i6 ((Ae false 407 ⟨(p:Int), -1⟩).Ag.First),i6 ((Ae false 407 ⟨(p:Int), -1⟩).Ag.Second),i6 ((Ae (win (y8.Ai.xs.length:Int) 1 8) 408 ⟨(p:Int), -1⟩).e),i6 ((Ae (win (y8.Ai.xs.length:Int) 1 8) 408 ⟨(p:Int), -1⟩).Ag.First),i6 ((Ae (win (y8.Ai.xs.length:Int) 1 8) 408 ⟨(p:Int), -1⟩).Ag.Second)] 111
abbrev JG:=bk n75 #[i6 ((Ae (AC c p) 405 ⟨(p:Int), -1⟩).e),i6 ((Ae (AC c p) 405 ⟨(p:Int), -1⟩).Ag.First),i6 ((Ae (AC c p) 405 ⟨(p:Int), -1⟩).Ag.Second),i6 ((Ae (win y8.Bj 0 15) 406 ⟨(p:Int), -1⟩).e),i6 ((Ae (win y8.Bj 0 15) 406 ⟨(p:Int), -1⟩).Ag.First),i6 ((Ae (win y8.Bj 0 15) 406 ⟨(p:Int), -1⟩).Ag.Second),i6 ((Ae false 407 ⟨(p:Int), -1⟩).e),i6 ((Ae false 407 ⟨(p:Int), -1⟩).Ag.First),i6 ((Ae false 407 ⟨(p:Int), -1⟩).Ag.Second),i6 ((Ae (win (y8.Ai.xs.length:Int) 1 8) 408 ⟨(p:Int), -1⟩).e),i6 ((Ae (win (y8.Ai.xs.length:Int) 1 8) 408 ⟨(p:Int), -1⟩).Ag.First),i6 ((Ae (win (y8.Ai.xs.length:Int) 1 8) 408 ⟨(p:Int), -1⟩).Ag.Second)] 111
abbrev KI:=bk n123 #[i6 ((Ae (AC c p) 405 ⟨(p:Int), -1⟩).e),i6 ((Ae (AC c p) 405 ⟨(p:Int), -1⟩).Ag.First),i6 ((Ae (AC c p) 405 ⟨(p:Int), -1⟩).Ag.Second),i6 ((Ae false 406 ⟨(p:Int), -1⟩).e),i6 ((Ae false 406 ⟨(p:Int), -1⟩).Ag.First),i6 ((Ae false 406 ⟨(p:Int), -1⟩).Ag.Second),i6 ((Ae (win y8.BM 0 16) 407 ⟨(p:Int), -1⟩).e),i6 ((Ae (win y8.BM 0 16) 407 ⟨(p:Int), -1⟩).Ag.First),i6 ((Ae (win y8.BM 0 16) 407 ⟨(p:Int), -1⟩).Ag.Second),i6 ((Ae (win (y8.Ai.xs.length:Int) 1 8) 408 ⟨(p:Int), -1⟩).e),i6 ((Ae (win (y8.Ai.xs.length:Int) 1 8) 408 ⟨(p:Int), -1⟩).Ag.First),i6 ((Ae (win (y8.Ai.xs.length:Int) 1 8) 408 ⟨(p:Int), -1⟩).Ag.Second)] 111
abbrev JE:=bk b131 #[i6 ((Ae (AC c p) 405 ⟨(p:Int), -1⟩).e),i6 ((Ae (AC c p) 405 ⟨(p:Int), -1⟩).Ag.First),i6 ((Ae (AC c p) 405 ⟨(p:Int), -1⟩).Ag.Second),i6 ((Ae false 406 ⟨(p:Int), -1⟩).e),i6 ((Ae false 406 ⟨(p:Int), -1⟩).Ag.First),i6 ((Ae false 406 ⟨(p:Int), -1⟩).Ag.Second),i6 ((Ae (win y8.BM 0 16) 407 ⟨(p:Int), -1⟩).e),i6 ((Ae (win y8.BM 0 16) 407 ⟨(p:Int), -1⟩).Ag.First),i6 ((Ae (win y8.BM 0 16) 407 ⟨(p:Int), -1⟩).Ag.Second),i6 ((Ae (win (y8.Ai.xs.length:Int) 1 8) 408 ⟨(p:Int), -1⟩).e),i6 ((Ae (win (y8.Ai.xs.length:Int) 1 8) 408 ⟨(p:Int), -1⟩).Ag.First),i6 ((Ae (win (y8.Ai.xs.length:Int) 1 8) 408 ⟨(p:Int), -1⟩).Ag.Second)] 111
abbrev Uh:=bk n120 #[i6 ((Ae (AC c p) 405 ⟨(p:Int), -1⟩).e),i6 ((Ae (AC c p) 405 ⟨(p:Int), -1⟩).Ag.First),i6 ((Ae (AC c p) 405 ⟨(p:Int), -1⟩).Ag.Second),i6 ((Ae false 406 ⟨(p:Int), -1⟩).e),i6 ((Ae false 406 ⟨(p:Int), -1⟩).Ag.First),i6 ((Ae false 406 ⟨(p:Int), -1⟩).Ag.Second),i6 ((Ae (win y8.BM 0 16) 407 ⟨(p:Int), -1⟩).e),i6 ((Ae (win y8.BM 0 16) 407 ⟨(p:Int), -1⟩).Ag.First),i6 ((Ae (win y8.BM 0 16) 407 ⟨(p:Int), -1⟩).Ag.Second),i6 ((Ae (win (y8.Ai.xs.length:Int) 1 8) 408 ⟨(p:Int), -1⟩).e),i6 ((Ae (win (y8.Ai.xs.length:Int) 1 8) 408 ⟨(p:Int), -1⟩).Ag.First),i6 ((Ae (win (y8.Ai.xs.length:Int) 1 8) 408 ⟨(p:Int), -1⟩).Ag.Second)] 111
abbrev Wj:=bk n165 #[i6 ((Ae (AC c p) 405 ⟨(p:Int), -1⟩).e),i6 ((Ae (AC c p) 405 ⟨(p:Int), -1⟩).Ag.First),i6 ((Ae (AC c p) 405 ⟨(p:Int), -1⟩).Ag.Second),i6 ((Ae false 406 ⟨(p:Int), -1⟩).e),i6 ((Ae false 406 ⟨(p:Int), -1⟩).Ag.First),i6 ((Ae false 406 ⟨(p:Int), -1⟩).Ag.Second),i6 ((Ae false 407 ⟨(p:Int), -1⟩).e),i6 ((Ae false 407 ⟨(p:Int), -1⟩).Ag.First),i6 ((Ae false 407 ⟨(p:Int), -1⟩).Ag.Second),i6 ((Ae (win (y8.Ai.xs.length:Int) 1 8) 408 ⟨(p:Int), -1⟩).e),i6 ((Ae (win (y8.Ai.xs.length:Int) 1 8) 408 ⟨(p:Int), -1⟩).Ag.First),i6 ((Ae (win (y8.Ai.xs.length:Int) 1 8) 408 ⟨(p:Int), -1⟩).Ag.Second)] 111
abbrev Vy:=bk b173 #[i6 ((Ae (AC c p) 405 ⟨(p:Int), -1⟩).e),i6 ((Ae (AC c p) 405 ⟨(p:Int), -1⟩).Ag.First),i6 ((Ae (AC c p) 405 ⟨(p:Int), -1⟩).Ag.Second),i6 ((Ae false 406 ⟨(p:Int), -1⟩).e),i6 ((Ae false 406 ⟨(p:Int), -1⟩).Ag.First),i6 ((Ae false 406 ⟨(p:Int), -1⟩).Ag.Second),i6 ((Ae false 407 ⟨(p:Int), -1⟩).e),i6 ((Ae false 407 ⟨(p:Int), -1⟩).Ag.First),i6 ((Ae false 407 ⟨(p:Int), -1⟩).Ag.Second),i6 ((Ae (win (y8.Ai.xs.length:Int) 1 8) 408 ⟨(p:Int), -1⟩).e),i6 ((Ae (win (y8.Ai.xs.length:Int) 1 8) 408 ⟨(p:Int), -1⟩).Ag.First),i6 ((Ae (win (y8.Ai.xs.length:Int) 1 8) 408 ⟨(p:Int), -1⟩).Ag.Second)] 111
abbrev TA:=bk n162 #[i6 ((Ae (AC c p) 405 ⟨(p:Int), -1⟩).e),i6 ((Ae (AC c p) 405 ⟨(p:Int), -1⟩).Ag.First),i6 ((Ae (AC c p) 405 ⟨(p:Int), -1⟩).Ag.Second),i6 ((Ae false 406 ⟨(p:Int), -1⟩).e),i6 ((Ae false 406 ⟨(p:Int), -1⟩).Ag.First),i6 ((Ae false 406 ⟨(p:Int), -1⟩).Ag.Second),i6 ((Ae false 407 ⟨(p:Int), -1⟩).e),i6 ((Ae false 407 ⟨(p:Int), -1⟩).Ag.First),i6 ((Ae false 407 ⟨(p:Int), -1⟩).Ag.Second),i6 ((Ae (win (y8.Ai.xs.length:Int) 1 8) 408 ⟨(p:Int), -1⟩).e),i6 ((Ae (win (y8.Ai.xs.length:Int) 1 8) 408 ⟨(p:Int), -1⟩).Ag.First),i6 ((Ae (win (y8.Ai.xs.length:Int) 1 8) 408 ⟨(p:Int), -1⟩).Ag.Second)] 111
abbrev Vr:=bk n209 #[i6 ((Ae (Gs y8) 412 ⟨(p:Int), -1⟩).e),i6 ((Ae (Gs y8) 412 ⟨(p:Int), -1⟩).Ag.First),i6 ((Ae (Gs y8) 412 ⟨(p:Int), -1⟩).Ag.Second),i6 ((Ae false 413 ⟨(p:Int), -1⟩).e),i6 ((Ae false 413 ⟨(p:Int), -1⟩).Ag.First),i6 ((Ae false 413 ⟨(p:Int), -1⟩).Ag.Second)] 111
abbrev V6:=bk n220 #[i6 ((Ae (Gs y8) 412 ⟨(p:Int), -1⟩).e),i6 ((Ae (Gs y8) 412 ⟨(p:Int), -1⟩).Ag.First),i6 ((Ae (Gs y8) 412 ⟨(p:Int), -1⟩).Ag.Second),i6 ((Ae true 413 ⟨(p:Int), -1⟩).e),i6 ((Ae true 413 ⟨(p:Int), -1⟩).Ag.First),i6 ((Ae true 413 ⟨(p:Int), -1⟩).Ag.Second)] 111
abbrev Vs:=bk n232 #[i6 ((Ae false 412 ⟨(p:Int), -1⟩).e),i6 ((Ae false 412 ⟨(p:Int), -1⟩).Ag.First),i6 ((Ae false 412 ⟨(p:Int), -1⟩).Ag.Second),i6 ((Ae false 413 ⟨(p:Int), -1⟩).e),i6 ((Ae false 413 ⟨(p:Int), -1⟩).Ag.First),i6 ((Ae false 413 ⟨(p:Int), -1⟩).Ag.Second)] 111
abbrev Vh:=bk n242 #[i6 ((Ae false 412 ⟨(p:Int), -1⟩).e),i6 ((Ae false 412 ⟨(p:Int), -1⟩).Ag.First),i6 ((Ae false 412 ⟨(p:Int), -1⟩).Ag.Second),i6 ((Ae true 413 ⟨(p:Int), -1⟩).e),i6 ((Ae true 413 ⟨(p:Int), -1⟩).Ag.First),i6 ((Ae true 413 ⟨(p:Int), -1⟩).Ag.Second)] 111
abbrev Xd:Ch:= .blk b36 (.cells (Am.arr (Ba [(Ae (AC c p) 405 ⟨(p:Int), -1⟩),(Ae (win y8.Bj 0 15) 406 ⟨(p:Int), -1⟩),(Ae (win y8.BM 0 16) 407 ⟨(p:Int), -1⟩),(Ae (win (y8.Ai.xs.length:Int) 1 8) 408 ⟨(p:Int), -1⟩)])) 111 (0,0)) true
abbrev X4:Ch:= .blk b42 (.cells (Am.arr (Ba [(Ae (AC c p) 405 ⟨(p:Int), -1⟩),(Ae (win y8.Bj 0 15) 406 ⟨(p:Int), -1⟩),(Ae (win y8.BM 0 16) 407 ⟨(p:Int), -1⟩),(Ae (win (y8.Ai.xs.length:Int) 1 8) 408 ⟨(p:Int), -1⟩)])) 111 (0,0)) true
abbrev UV:Ch:= .blk b17 (.cells (Am.arr (Ba [(Ae (AC c p) 405 ⟨(p:Int), -1⟩),(Ae (win y8.Bj 0 15) 406 ⟨(p:Int), -1⟩),(Ae (win y8.BM 0 16) 407 ⟨(p:Int), -1⟩),(Ae (win (y8.Ai.xs.length:Int) 1 8) 408 ⟨(p:Int), -1⟩)])) 111 (0,0)) true
abbrev Xl:Ch:= .blk b79 (.cells (Am.arr (Ba [(Ae (AC c p) 405 ⟨(p:Int), -1⟩),(Ae (win y8.Bj 0 15) 406 ⟨(p:Int), -1⟩),(Ae false 407 ⟨(p:Int), -1⟩),(Ae (win (y8.Ai.xs.length:Int) 1 8) 408 ⟨(p:Int), -1⟩)])) 111 (0,0)) true
abbrev WU:Ch:= .blk b85 (.cells (Am.arr (Ba [(Ae (AC c p) 405 ⟨(p:Int), -1⟩),(Ae (win y8.Bj 0 15) 406 ⟨(p:Int), -1⟩),(Ae false 407 ⟨(p:Int), -1⟩),(Ae (win (y8.Ai.xs.length:Int) 1 8) 408 ⟨(p:Int), -1⟩)])) 111 (0,0)) true
abbrev XK:Ch:= .blk b61 (.cells (Am.arr (Ba [(Ae (AC c p) 405 ⟨(p:Int), -1⟩),(Ae (win y8.Bj 0 15) 406 ⟨(p:Int), -1⟩),(Ae false 407 ⟨(p:Int), -1⟩),(Ae (win (y8.Ai.xs.length:Int) 1 8) 408 ⟨(p:Int), -1⟩)])) 111 (0,0)) true
abbrev X7:Ch:= .blk b124 (.cells (Am.arr (Ba [(Ae (AC c p) 405 ⟨(p:Int), -1⟩),(Ae false 406 ⟨(p:Int), -1⟩),(Ae (win y8.BM 0 16) 407 ⟨(p:Int), -1⟩),(Ae (win (y8.Ai.xs.length:Int) 1 8) 408 ⟨(p:Int), -1⟩)])) 111 (0,0)) true
abbrev Xb:Ch:= .blk b130 (.cells (Am.arr (Ba [(Ae (AC c p) 405 ⟨(p:Int), -1⟩),(Ae false 406 ⟨(p:Int), -1⟩),(Ae (win y8.BM 0 16) 407 ⟨(p:Int), -1⟩),(Ae (win (y8.Ai.xs.length:Int) 1 8) 408 ⟨(p:Int), -1⟩)])) 111 (0,0)) true
abbrev Vj:Ch:= .blk b106 (.cells (Am.arr (Ba [(Ae (AC c p) 405 ⟨(p:Int), -1⟩),(Ae false 406 ⟨(p:Int), -1⟩),(Ae (win y8.BM 0 16) 407 ⟨(p:Int), -1⟩),(Ae (win (y8.Ai.xs.length:Int) 1 8) 408 ⟨(p:Int), -1⟩)])) 111 (0,0)) true
abbrev X0:Ch:= .blk b166 (.cells (Am.arr (Ba [(Ae (AC c p) 405 ⟨(p:Int), -1⟩),(Ae false 406 ⟨(p:Int), -1⟩),(Ae false 407 ⟨(p:Int), -1⟩),(Ae (win (y8.Ai.xs.length:Int) 1 8) 408 ⟨(p:Int), -1⟩)])) 111 (0,0)) true
abbrev XH:Ch:= .blk b172 (.cells (Am.arr (Ba [(Ae (AC c p) 405 ⟨(p:Int), -1⟩),(Ae false 406 ⟨(p:Int), -1⟩),(Ae false 407 ⟨(p:Int), -1⟩),(Ae (win (y8.Ai.xs.length:Int) 1 8) 408 ⟨(p:Int), -1⟩)])) 111 (0,0)) true
abbrev XF:Ch:= .blk b149 (.cells (Am.arr (Ba [(Ae (AC c p) 405 ⟨(p:Int), -1⟩),(Ae false 406 ⟨(p:Int), -1⟩),(Ae false 407 ⟨(p:Int), -1⟩),(Ae (win (y8.Ai.xs.length:Int) 1 8) 408 ⟨(p:Int), -1⟩)])) 111 (0,0)) true
abbrev UJ:Ch:= .blk b6 (.cells (Am.arr (Ba [(Ae (Gs y8) 412 ⟨(p:Int), -1⟩),(Ae false 413 ⟨(p:Int), -1⟩)])) 111 (0,0)) true
abbrev UR:Ch:= .blk b6 (.cells (Am.arr (Ba [(Ae (Gs y8) 412 ⟨(p:Int), -1⟩),(Ae true 413 ⟨(p:Int), -1⟩)])) 111 (0,0)) true
abbrev V3:Ch:= .blk b6 (.cells (Am.arr (Ba [(Ae false 412 ⟨(p:Int), -1⟩),(Ae false 413 ⟨(p:Int), -1⟩)])) 111 (0,0)) true
abbrev Vb:Ch:= .blk b6 (.cells (Am.arr (Ba [(Ae false 412 ⟨(p:Int), -1⟩),(Ae true 413 ⟨(p:Int), -1⟩)])) 111 (0,0)) true
abbrev Qe:Ch:= .blk b6 (.cells (Am.arr (Fq (Ba (Jl c p)) (LP c p) k)) 111 (0,0)) true
abbrev AX:=bk (z+1) #[i6 0,i6 0,i6 0] 111
abbrev IJ:=bk b6 (Am.arr (J9 c p)) 111
abbrev AV:=bk (z+2) (Aq.arr y8) 52
abbrev AQ:=bk z (Aj.arr c) 26
abbrev OJ:Dc:=(50,.agg (Am.arr (Ba [(Ae (AC c p) 405 ⟨(p:Int), -1⟩),(Ae (win y8.Bj 0 15) 406 ⟨(p:Int), -1⟩),(Ae (win y8.BM 0 16) 407 ⟨(p:Int), -1⟩),(Ae (win (y8.Ai.xs.length:Int) 1 8) 408 ⟨(p:Int), -1⟩)])))
abbrev OE:Dc:=(50,.agg (Am.arr (Ba [(Ae (AC c p) 405 ⟨(p:Int), -1⟩),(Ae (win y8.Bj 0 15) 406 ⟨(p:Int), -1⟩),(Ae false 407 ⟨(p:Int), -1⟩),(Ae (win (y8.Ai.xs.length:Int) 1 8) 408 ⟨(p:Int), -1⟩)])))
abbrev OO:Dc:=(50,.agg (Am.arr (Ba [(Ae (AC c p) 405 ⟨(p:Int), -1⟩),(Ae false 406 ⟨(p:Int), -1⟩),(Ae (win y8.BM 0 16) 407 ⟨(p:Int), -1⟩),(Ae (win (y8.Ai.xs.length:Int) 1 8) 408 ⟨(p:Int), -1⟩)])))
abbrev O7:Dc:=(50,.agg (Am.arr (Ba [(Ae (AC c p) 405 ⟨(p:Int), -1⟩),(Ae false 406 ⟨(p:Int), -1⟩),(Ae false 407 ⟨(p:Int), -1⟩),(Ae (win (y8.Ai.xs.length:Int) 1 8) 408 ⟨(p:Int), -1⟩)])))
abbrev Jv:Dc:=(48,.agg (Am.arr (Ae (win (y8.Ai.xs.length:Int) 1 8) 408 ⟨(p:Int), -1⟩)))
abbrev OL:Dc:=(30,.agg (Am.arr (Ae (win y8.Bj 0 15) 406 ⟨(p:Int), -1⟩)))
abbrev Nz:Dc:=(41,.agg (Am.arr (Ae (win y8.BM 0 16) 407 ⟨(p:Int), -1⟩)))
abbrev Ju:Dc:=(19,.agg (Am.arr (Ae (AC c p) 405 ⟨(p:Int), -1⟩)))
abbrev OG:Dc:=(41,.agg (Am.arr (Ae false 407 ⟨(p:Int), -1⟩)))
abbrev Pg:Dc:=(30,.agg (Am.arr (Ae false 406 ⟨(p:Int), -1⟩)))
abbrev OZ:=(44,Ac y8.Ai.xs.length)
abbrev AA:=(4,pt (z+1))
abbrev AB:=(5,pt (z+2))
abbrev CW:=(6,pt b6)
abbrev UN:=[(Ak w),(AQ c z),(AX z),(AV y8 z),(.blk b6 (.cells (Am.arr (Ae (win y260.Channel 0 ((c.Ah.xs.length:Int) - 1)) 414 ⟨(p:Int),(k:Int)⟩)) 111 (0,0)) true)]
abbrev II:=[(Ak w),(AQ c z),(AX z),(AV y8 z),(IJ c p b6)]
end
theorem P5(w:World)(hL:Iq w)(c:Aj)(hc:Aj.ok Any w c)(p:Nat)(hp:p<c.Aa.xs.length)(hFr:1≤c.Frames∧c.Frames≤1024)(hpf:∀ q,q<p→ED c q=D9):Calls Tryd.prog 69 #[.agg (Aj.arr c),.int .i64 (p:Int)] w fun e w'=>e = .returned (.agg (Am.arr (ED c p)))∧CZ (fun _=>False) w w':=by
 obtain⟨z,hz⟩:∃ z,z=w.heap.size:=⟨_,rfl⟩
 refine Cb (args:=[.agg (Aj.arr c),Ac p]) 118 ⟨w,z,[(Ak w)]⟩ Tryd.func69 rfl (by kernel_rfl) (by kernel_rfl) (ES hz) ?_
 have hpl:=hc.Aa.1.len;have hpc:=hc.Aa.1.le;have hrl:=(hc.Aa.2 p hp).Ai.1.len;have hrc:=(hc.Aa.2 p hp).Ai.1.le;have hpp:=(hc.Aa.2 p hp).Ar.1.len;have hcl:=hc.Ah.1.len
 refine Ee [0,1] [(0,.agg (Aj.arr c)),(1,Ac p)] ?_
 refine q_c 5 0 [] [[o0,o0]] [] [(1,Ac p),(2,pt z),(AA z)] ⟨w,z+2,[(Ak w),(AQ c z),(AX z)]⟩ rfl Af ?_
 obtain⟨b1,o2,ha3,hF5,hc4⟩:=(hc.Aa).1.all (show 0<c.Aa.xs.length by omega)
 replace ha3:c.Aa.a=some ⟨b1,o2,none⟩:=ha3
 have hc6:=hc4 p (show p<c.Aa.xs.length by omega)
 have he7:=(hc.Aa).2 p (show p<c.Aa.xs.length by omega)
 obtain⟨y8,hy8⟩:∃ y_,y_=gd c.Aa.xs p:=⟨_,rfl⟩
 rw[←hy8]at he7 hc6
 (try rw[←hy8]at hrl hrc hpp)
 refine q_c 3 0 [] [[o0,(Gy 1 b1 o2 c.Aa),o0,(oi p),(ol 0 (Aq.arr y8)),o0,(an 8 3)]] [Qb z,FO b1 o2 c.Aa,DJ p,p<c.Aa.xs.length,Di,He w b1 (o2+p*8) (Aq.arr y8),Qb (z+2),Qb (z+2),Qb (z+2),Qb (z+2),Qb (z+2),Qb (z+2),Qb (z+2),Qb (z+2)] [(1,Ac p),(2,pt z),(AA z),(AB z)] ⟨w,z+3,[(Ak w),(AQ c z),(AX z),(AV y8 z)]⟩ rfl ⟨rfl,FP ha3,rfl,(by omega),rfl,EH hc6,rfl,rfl,rfl,rfl,rfl,rfl,rfl,rfl,Af⟩ ?_
 refine Uc (fun a w'=>∃ (n9:Nat) (b6:Nat),z+3≤n9∧St 118 [(1,Ac p),(2,pt z),(AA z),(AB z),(CW b6)] [] ⟨w,n9,[(Ak w),(AQ c z),(AX z),(AV y8 z),(.blk b6 (.cells (Am.arr (Ba (Jj c p))) 111 (0,0)) true)]⟩ a w') ?_ ?_
 ·by_cases h11:(win y8.FX 0 2)=true
  ·have hd12:=H8 h11
   by_cases h13:(win y8.FU 0 16)=true
   ·have hd14:=H8 h13
    refine Eo 38 [0,1,2,3] [(Ak w),(AQ c z),(AX z),(AV y8 z)] rfl rfl ?_
    refine D6 [(0,(an 7 1)),(1,o0),(3,o0),(6,o0),(7,(a1 3)),(14,o0),(17,o0),(18,(a1 3)),(25,o0),(28,o0),(29,(a1 3)),(30,o0),(32,o0)] [1,2,4,5,14,15,17,21,28,32,39,44,46] [Qb z,Qb z,Qb z,Qb z,Qb z,Qb z,Qb z,Qb (z+2),Qb (z+2),Qb (z+2)] [true,true,false,true,false,false,true,true,false,false,false,false,false,false,true,false,false,true,true,false,false,false,false,false,false,true,false,false,true,true,true,false,true,false,false,false,false,false,false] [(1,Ac p),(2,pt z),(AA z),(AB z),(14,.agg (Aj.arr c)),(15,Ac p),(17,Ac p),(21,i6 y8.FX),(28,Ac p),(32,i6 y8.FU),(39,Ac p),(OZ y8),(46,Ac p)] ⟨rfl,rfl,rfl,rfl,rfl,rfl,rfl,rfl,rfl,rfl,Af⟩ ?_
    refine Oq (fun x:{p:Nat×Nat×Nat // z+3≤p.1∧z+3≤p.2.1∧z+3≤p.2.2}=>([(1,Ac p),(2,pt z),(AA z),(AB z),(6,pt x.1.2.2)],⟨w,x.1.1,[(Ak w),(AQ c z),(AX z),(AV y8 z),(.blk x.1.2.1 (.cells #[i6 ((Ae (AC c p) 405 ⟨(p:Int), -1⟩).e),i6 ((Ae (AC c p) 405 ⟨(p:Int), -1⟩).Ag.First),i6 ((Ae (AC c p) 405 ⟨(p:Int), -1⟩).Ag.Second),i6 ((Ae (win y8.Bj 0 15) 406 ⟨(p:Int), -1⟩).e),i6 ((Ae (win y8.Bj 0 15) 406 ⟨(p:Int), -1⟩).Ag.First),i6 ((Ae (win y8.Bj 0 15) 406 ⟨(p:Int), -1⟩).Ag.Second),i6 ((Ae (win y8.BM 0 16) 407 ⟨(p:Int), -1⟩).e),i6 ((Ae (win y8.BM 0 16) 407 ⟨(p:Int), -1⟩).Ag.First),i6 ((Ae (win y8.BM 0 16) 407 ⟨(p:Int), -1⟩).Ag.Second),i6 ((Ae (win (y8.Ai.xs.length:Int) 1 8) 408 ⟨(p:Int), -1⟩).e),i6 ((Ae (win (y8.Ai.xs.length:Int) 1 8) 408 ⟨(p:Int), -1⟩).Ag.First),i6 ((Ae (win (y8.Ai.xs.length:Int) 1 8) 408 ⟨(p:Int), -1⟩).Ag.Second)] 111 (0,0)) true),(.blk x.1.2.2 (.cells (Am.arr (Ba [(Ae (AC c p) 405 ⟨(p:Int), -1⟩),(Ae (win y8.Bj 0 15) 406 ⟨(p:Int), -1⟩),(Ae (win y8.BM 0 16) 407 ⟨(p:Int), -1⟩),(Ae (win (y8.Ai.xs.length:Int) 1 8) 408 ⟨(p:Int), -1⟩)])) 111 (0,0)) true)]⟩)) (fun hK => ?_) ?_
    ·refine NR 37 6 [.cl 2 (.bool (AC c p)),.cl 4 (.agg #[(Ac p),i6 (-1)]),.cl 5 (.agg (Am.arr (Ae (AC c p) 405 ⟨(p:Int), -1⟩))),.cl 8 (.bool (win y8.FX 0 2)),.tk 9 (ov (.bool true)),.tk 10 o0,.tk 11 (a1 3),.cl 12 (.bool (win y8.Bj 0 15)),.tk 13 o0,.cl 15 (.agg #[(Ac p),i6 (-1)]),.cl 16 (.agg (Am.arr (Ae (win y8.Bj 0 15) 406 ⟨(p:Int), -1⟩))),.cl 19 (.bool (win y8.FU 0 16)),.tk 20 (ov (.bool true)),.tk 21 o0,.tk 22 (a1 3),.cl 23 (.bool (win y8.BM 0 16)),.tk 24 o0,.cl 26 (.agg #[(Ac p),i6 (-1)]),.cl 27 (.agg (Am.arr (Ae (win y8.BM 0 16) 407 ⟨(p:Int), -1⟩))),.cl 31 (.bool (win (y8.Ai.xs.length:Int) 1 8)),.cl 33 (.agg #[(Ac p),i6 (-1)]),.cl 34 (.agg (Am.arr (Ae (win (y8.Ai.xs.length:Int) 1 8) 408 ⟨(p:Int), -1⟩)))] [1,2,4,5,19,30,41,48] [(92,#[.agg (Aj.arr c),Ac p],.bool (AC c p)),(93,#[(Ac p)],.agg #[(Ac p),i6 (-1)]),(62,#[.bool (AC c p),i6 405,.agg #[(Ac p),i6 (-1)]],.agg (Am.arr (Ae (AC c p) 405 ⟨(p:Int), -1⟩))),(63,#[i6 y8.FX,i6 0,i6 2],.bool (win y8.FX 0 2)),(63,#[i6 y8.Bj,i6 0,i6 15],.bool (win y8.Bj 0 15)),(93,#[(Ac p)],.agg #[(Ac p),i6 (-1)]),(62,#[.bool (win y8.Bj 0 15),i6 406,.agg #[(Ac p),i6 (-1)]],.agg (Am.arr (Ae (win y8.Bj 0 15) 406 ⟨(p:Int), -1⟩))),(63,#[i6 y8.FU,i6 0,i6 16],.bool (win y8.FU 0 16)),(63,#[i6 y8.BM,i6 0,i6 16],.bool (win y8.BM 0 16)),(93,#[(Ac p)],.agg #[(Ac p),i6 (-1)]),(62,#[.bool (win y8.BM 0 16),i6 407,.agg #[(Ac p),i6 (-1)]],.agg (Am.arr (Ae (win y8.BM 0 16) 407 ⟨(p:Int), -1⟩))),(63,#[(Ac y8.Ai.xs.length),i6 1,i6 8],.bool (win (y8.Ai.xs.length:Int) 1 8)),(93,#[(Ac p)],.agg #[(Ac p),i6 (-1)]),(62,#[.bool (win (y8.Ai.xs.length:Int) 1 8),i6 408,.agg #[(Ac p),i6 (-1)]],.agg (Am.arr (Ae (win (y8.Ai.xs.length:Int) 1 8) 408 ⟨(p:Int), -1⟩)))] (DC 35 4) [Value.bool (win y8.FX 0 2)=Value.bool true,Qb (z+2),Value.bool (win y8.FU 0 16)=Value.bool true,Qb (z+2)] [(1,Ac p),(2,pt z),(AA z),(AB z),(Ju c p),(OL p y8),(Nz p y8),(Jv p y8)] (.cells #[i6 0,i6 0,i6 0] 111 (0,0)) [0,1,2,3] ⟨(congrArg Value.bool h11),rfl,(congrArg Value.bool h13),rfl,Af⟩ ⟨fun w18 hw18=>Qg w18 c (hc.ext (hw18.ext rfl) (fun _ h=>h)) p hp,fun w19 hw19=>Dh w19 (p:Int),fun w20 hw20=>AY w20 (hL.ext (hw20.ext rfl)) (AC c p) 405 (p:Int) (-1),fun w21 hw21=>BL w21 y8.FX 0 2,fun w22 hw22=>BL w22 y8.Bj 0 15,fun w23 hw23=>Dh w23 (p:Int),fun w24 hw24=>AY w24 (hL.ext (hw24.ext rfl)) (win y8.Bj 0 15) 406 (p:Int) (-1),fun w25 hw25=>BL w25 y8.FU 0 16,fun w26 hw26=>BL w26 y8.BM 0 16,fun w27 hw27=>Dh w27 (p:Int),fun w28 hw28=>AY w28 (hL.ext (hw28.ext rfl)) (win y8.BM 0 16) 407 (p:Int) (-1),fun w29 hw29=>BL w29 (y8.Ai.xs.length:Int) 1 8,fun w30 hw30=>Dh w30 (p:Int),fun w31 hw31=>AY w31 (hL.ext (hw31.ext rfl)) (win (y8.Ai.xs.length:Int) 1 8) 408 (p:Int) (-1),Af⟩ ?_ (fun hv34 n32 hn33 => ?_)
     ·rintro⟨⟨n35,b36⟩,hb37⟩
      simp only at hb37
      refine Bv 35 ?_
      refine BC o0 [6,1,2,4,5,49] [] [(6,pt b36),(1,Ac p),(2,pt z),(AA z),(AB z),(49,.slice (some ⟨n35,0,none⟩) 4 4)] ⟨w,n35+1,[(Ak w),(AQ c z),(AX z),(AV y8 z),(bk b36 #[i6 0,i6 0,i6 0] 111),(JA n35 c p y8)]⟩ [0,1,2,3] Af (.inr rfl) ?_
      refine Bv 36 ?_
      refine FM 91 #[.slice (some ⟨n35,0,none⟩) 4 4] (some 50) (.agg (Am.arr (Ba [(Ae (AC c p) 405 ⟨(p:Int), -1⟩),(Ae (win y8.Bj 0 15) 406 ⟨(p:Int), -1⟩),(Ae (win y8.BM 0 16) 407 ⟨(p:Int), -1⟩),(Ae (win (y8.Ai.xs.length:Int) 1 8) 408 ⟨(p:Int), -1⟩)]))) [6,1,2,4,5,50] [(6,pt b36),(1,Ac p),(2,pt z),(AA z),(AB z),(OJ c p y8)] [0,1,2,3] (fun w38 hw38=>Dp w38 (hL.ext (hw38.ext rfl)) ⟨some ⟨n35,0,none⟩,4,[(Ae (AC c p) 405 ⟨(p:Int), -1⟩),(Ae (win y8.Bj 0 15) 406 ⟨(p:Int), -1⟩),(Ae (win y8.BM 0 16) 407 ⟨(p:Int), -1⟩),(Ae (win (y8.Ai.xs.length:Int) 1 8) 408 ⟨(p:Int), -1⟩)]⟩ (Eb hw38 (i:=5) [(Ae (AC c p) 405 ⟨(p:Int), -1⟩),(Ae (win y8.Bj 0 15) 406 ⟨(p:Int), -1⟩),(Ae (win y8.BM 0 16) 407 ⟨(p:Int), -1⟩),(Ae (win (y8.Ai.xs.length:Int) 1 8) 408 ⟨(p:Int), -1⟩)]) (show 4≤1000 by decide)) (fun n39 hn40 => ?_)
      replace hn40:n35+1≤n39:=hn40
      refine Bv 38 ?_
      refine BC (an 3 4) [6,1,2,4,5] [Qb b36,Qb b36,Qb b36] [(6,pt b36),(1,Ac p),(2,pt z),(AA z),(AB z)] ⟨w,n39,[(Ak w),(AQ c z),(AX z),(AV y8 z),(Xd c p y8 b36),(JA n35 c p y8)]⟩ [] ⟨rfl,rfl,rfl,Af⟩ (.inl rfl) ?_
      refine DV 39 [0,1,2,3,4,5] [(Ak w),(AQ c z),(AX z),(AV y8 z),(Xd c p y8 b36),(JA n35 c p y8)] rfl rfl ?_
      refine Dl ?_
      refine BR [1,2,4,5,6] [(1,Ac p),(2,pt z),(AA z),(AB z),(6,pt b36)] ?_
      refine BX [0,1,2,3,5,4] [(Ak w),(AQ c z),(AX z),(AV y8 z),(JA n35 c p y8),(Xd c p y8 b36)] rfl rfl ?_
      exact hK ⟨(n39,n35,b36),by first | omega | (dsimp only;omega)⟩
     replace hn33:z+3≤n32:=hn33
     refine LM (fun x:{p:Nat×Nat×Nat // n32≤p.1∧n32≤p.2.1∧n32≤p.2.2}=>[(1,Ac p),(2,pt z),(AA z),(AB z),(6,pt x.1.2.1),(OJ c p y8)]) (fun x=>⟨w,x.1.1,[(Ak w),(AQ c z),(AX z),(AV y8 z),(.blk x.1.2.1 (.cells #[i6 0,i6 0,i6 0] 111 (0,0)) true),(.blk x.1.2.2 (.cells #[i6 ((Ae (AC c p) 405 ⟨(p:Int), -1⟩).e),i6 ((Ae (AC c p) 405 ⟨(p:Int), -1⟩).Ag.First),i6 ((Ae (AC c p) 405 ⟨(p:Int), -1⟩).Ag.Second),i6 ((Ae (win y8.Bj 0 15) 406 ⟨(p:Int), -1⟩).e),i6 ((Ae (win y8.Bj 0 15) 406 ⟨(p:Int), -1⟩).Ag.First),i6 ((Ae (win y8.Bj 0 15) 406 ⟨(p:Int), -1⟩).Ag.Second),i6 ((Ae (win y8.BM 0 16) 407 ⟨(p:Int), -1⟩).e),i6 ((Ae (win y8.BM 0 16) 407 ⟨(p:Int), -1⟩).Ag.First),i6 ((Ae (win y8.BM 0 16) 407 ⟨(p:Int), -1⟩).Ag.Second),i6 ((Ae (win (y8.Ai.xs.length:Int) 1 8) 408 ⟨(p:Int), -1⟩).e),i6 ((Ae (win (y8.Ai.xs.length:Int) 1 8) 408 ⟨(p:Int), -1⟩).Ag.First),i6 ((Ae (win (y8.Ai.xs.length:Int) 1 8) 408 ⟨(p:Int), -1⟩).Ag.Second)] 111 (0,0)) true)]⟩) 1 (DC 38 1) ?_ (fun hv44 => ?_)
     ·rintro⟨⟨n41,b42,b43⟩,hb45⟩
      simp only at hb45
      show Wg _ _ [(1,Ac p),(2,pt z),(AA z),(AB z),(6,pt b42),(OJ c p y8)] _ ⟨w,n41,[(Ak w),(AQ c z),(AX z),(AV y8 z),(bk b42 #[i6 0,i6 0,i6 0] 111),(JD c p y8 b43)]⟩ _ _ _ _ _ _ _
      refine Bv 38 ?_
      refine BC (an 3 4) [1,2,4,5,6] [Qb b42,Qb b42,Qb b42] [(1,Ac p),(2,pt z),(AA z),(AB z),(6,pt b42)] ⟨w,n41,[(Ak w),(AQ c z),(AX z),(AV y8 z),(X4 c p y8 b42),(JD c p y8 b43)]⟩ [] ⟨rfl,rfl,rfl,Af⟩ (.inl rfl) ?_
      refine DV 39 [0,1,2,3,4,5] [(Ak w),(AQ c z),(AX z),(AV y8 z),(X4 c p y8 b42),(JD c p y8 b43)] rfl rfl ?_
      refine Dl ?_
      refine BR [1,2,4,5,6] [(1,Ac p),(2,pt z),(AA z),(AB z),(6,pt b42)] ?_
      refine BX [0,1,2,3,5,4] [(Ak w),(AQ c z),(AX z),(AV y8 z),(JD c p y8 b43),(X4 c p y8 b42)] rfl rfl ?_
      exact hK ⟨(n41,b43,b42),by first | omega | (dsimp only;omega)⟩
     refine LM (fun x:{p:Nat×Nat×Nat // n32≤p.1∧n32≤p.2.1∧n32≤p.2.2}=>[(1,Ac p),(2,pt z),(AA z),(AB z),(6,pt x.1.2.1),(49,.slice (some ⟨x.1.2.2,0,none⟩) 4 4)]) (fun x=>⟨w,x.1.1,[(Ak w),(AQ c z),(AX z),(AV y8 z),(.blk x.1.2.1 (.cells #[i6 0,i6 0,i6 0] 111 (0,0)) true),(.blk x.1.2.2 (.cells #[i6 ((Ae (AC c p) 405 ⟨(p:Int), -1⟩).e),i6 ((Ae (AC c p) 405 ⟨(p:Int), -1⟩).Ag.First),i6 ((Ae (AC c p) 405 ⟨(p:Int), -1⟩).Ag.Second),i6 ((Ae (win y8.Bj 0 15) 406 ⟨(p:Int), -1⟩).e),i6 ((Ae (win y8.Bj 0 15) 406 ⟨(p:Int), -1⟩).Ag.First),i6 ((Ae (win y8.Bj 0 15) 406 ⟨(p:Int), -1⟩).Ag.Second),i6 ((Ae (win y8.BM 0 16) 407 ⟨(p:Int), -1⟩).e),i6 ((Ae (win y8.BM 0 16) 407 ⟨(p:Int), -1⟩).Ag.First),i6 ((Ae (win y8.BM 0 16) 407 ⟨(p:Int), -1⟩).Ag.Second),i6 ((Ae (win (y8.Ai.xs.length:Int) 1 8) 408 ⟨(p:Int), -1⟩).e),i6 ((Ae (win (y8.Ai.xs.length:Int) 1 8) 408 ⟨(p:Int), -1⟩).Ag.First),i6 ((Ae (win (y8.Ai.xs.length:Int) 1 8) 408 ⟨(p:Int), -1⟩).Ag.Second)] 111 (0,0)) true)]⟩) 2 [true,true,true,true,true,true,true,true,true,true,true,true,true,true,true,true,true,true,true,true,true,true,true,true,true,true,true,true,true,true,true,true,true,true,true,true,false,true,false] ?_ (fun hv49 => ?_)
     ·rintro⟨⟨n46,b47,b48⟩,hb50⟩
      simp only at hb50
      show Wg _ _ [(1,Ac p),(2,pt z),(AA z),(AB z),(6,pt b47),(49,.slice (some ⟨b48,0,none⟩) 4 4)] _ ⟨w,n46,[(Ak w),(AQ c z),(AX z),(AV y8 z),(bk b47 #[i6 0,i6 0,i6 0] 111),(bk b48 #[i6 ((Ae (AC c p) 405 ⟨(p:Int), -1⟩).e),i6 ((Ae (AC c p) 405 ⟨(p:Int), -1⟩).Ag.First),i6 ((Ae (AC c p) 405 ⟨(p:Int), -1⟩).Ag.Second),i6 ((Ae (win y8.Bj 0 15) 406 ⟨(p:Int), -1⟩).e),i6 ((Ae (win y8.Bj 0 15) 406 ⟨(p:Int), -1⟩).Ag.First),i6 ((Ae (win y8.Bj 0 15) 406 ⟨(p:Int), -1⟩).Ag.Second),i6 ((Ae (win y8.BM 0 16) 407 ⟨(p:Int), -1⟩).e),i6 ((Ae (win y8.BM 0 16) 407 ⟨(p:Int), -1⟩).Ag.First),i6 ((Ae (win y8.BM 0 16) 407 ⟨(p:Int), -1⟩).Ag.Second),i6 ((Ae (win (y8.Ai.xs.length:Int) 1 8) 408 ⟨(p:Int), -1⟩).e),i6 ((Ae (win (y8.Ai.xs.length:Int) 1 8) 408 ⟨(p:Int), -1⟩).Ag.First),i6 ((Ae (win (y8.Ai.xs.length:Int) 1 8) 408 ⟨(p:Int), -1⟩).Ag.Second)] 111)]⟩ _ _ _ _ _ _ _
      refine Bv 36 ?_
      refine FM 91 #[.slice (some ⟨b48,0,none⟩) 4 4] (some 50) (.agg (Am.arr (Ba [(Ae (AC c p) 405 ⟨(p:Int), -1⟩),(Ae (win y8.Bj 0 15) 406 ⟨(p:Int), -1⟩),(Ae (win y8.BM 0 16) 407 ⟨(p:Int), -1⟩),(Ae (win (y8.Ai.xs.length:Int) 1 8) 408 ⟨(p:Int), -1⟩)]))) [1,2,4,5,6,50] [(1,Ac p),(2,pt z),(AA z),(AB z),(6,pt b47),(OJ c p y8)] [0,1,2,3] (fun w51 hw51=>Dp w51 (hL.ext (hw51.ext rfl)) ⟨some ⟨b48,0,none⟩,4,[(Ae (AC c p) 405 ⟨(p:Int), -1⟩),(Ae (win y8.Bj 0 15) 406 ⟨(p:Int), -1⟩),(Ae (win y8.BM 0 16) 407 ⟨(p:Int), -1⟩),(Ae (win (y8.Ai.xs.length:Int) 1 8) 408 ⟨(p:Int), -1⟩)]⟩ (Eb hw51 (i:=5) [(Ae (AC c p) 405 ⟨(p:Int), -1⟩),(Ae (win y8.Bj 0 15) 406 ⟨(p:Int), -1⟩),(Ae (win y8.BM 0 16) 407 ⟨(p:Int), -1⟩),(Ae (win (y8.Ai.xs.length:Int) 1 8) 408 ⟨(p:Int), -1⟩)]) (show 4≤1000 by decide)) (fun n52 hn53 => ?_)
      replace hn53:n46≤n52:=hn53
      refine Dt [1,2,4,5,6,50] [(1,Ac p),(2,pt z),(AA z),(AB z),(6,pt b47),(OJ c p y8)] ?_
      exact hv44 ⟨(n52,b47,b48),by first | omega | (dsimp only;omega)⟩
     refine Io [35,37] ?_
     refine List.forall_mem_cons.2 ⟨?_,List.forall_mem_cons.2 ⟨?_,fun _ h=>absurd h List.not_mem_nil⟩⟩
     ·refine BC o0 [1,2,4,5,49] [] [(1,Ac p),(2,pt z),(AA z),(AB z),(49,.slice (some ⟨n32,0,none⟩) 4 4)] ⟨w,n32+1,[(Ak w),(AQ c z),(AX z),(AV y8 z),(Nh c p y8 n32)]⟩ [0,1,2,3] Af (.inr rfl) ?_
      refine Io [36,37] ?_
      refine List.forall_mem_cons.2 ⟨?_,List.forall_mem_cons.2 ⟨?_,fun _ h=>absurd h List.not_mem_nil⟩⟩
      ·refine FM 91 #[.slice (some ⟨n32,0,none⟩) 4 4] (some 50) (.agg (Am.arr (Ba [(Ae (AC c p) 405 ⟨(p:Int), -1⟩),(Ae (win y8.Bj 0 15) 406 ⟨(p:Int), -1⟩),(Ae (win y8.BM 0 16) 407 ⟨(p:Int), -1⟩),(Ae (win (y8.Ai.xs.length:Int) 1 8) 408 ⟨(p:Int), -1⟩)]))) [1,2,4,5,50] [(1,Ac p),(2,pt z),(AA z),(AB z),(OJ c p y8)] [0,1,2,3] (fun w54 hw54=>Dp w54 (hL.ext (hw54.ext rfl)) ⟨some ⟨n32,0,none⟩,4,[(Ae (AC c p) 405 ⟨(p:Int), -1⟩),(Ae (win y8.Bj 0 15) 406 ⟨(p:Int), -1⟩),(Ae (win y8.BM 0 16) 407 ⟨(p:Int), -1⟩),(Ae (win (y8.Ai.xs.length:Int) 1 8) 408 ⟨(p:Int), -1⟩)]⟩ (Eb hw54 (i:=4) [(Ae (AC c p) 405 ⟨(p:Int), -1⟩),(Ae (win y8.Bj 0 15) 406 ⟨(p:Int), -1⟩),(Ae (win y8.BM 0 16) 407 ⟨(p:Int), -1⟩),(Ae (win (y8.Ai.xs.length:Int) 1 8) 408 ⟨(p:Int), -1⟩)]) (show 4≤1000 by decide)) (fun n55 hn56 => ?_)
       replace hn56:n32+1≤n55:=hn56
       refine Bv 37 ?_
       refine BC o0 [1,2,4,5,50,6] [] [(1,Ac p),(2,pt z),(AA z),(AB z),(OJ c p y8),(6,pt n55)] ⟨w,n55+1,[(Ak w),(AQ c z),(AX z),(AV y8 z),(Nh c p y8 n32),(bk n55 #[i6 0,i6 0,i6 0] 111)]⟩ [0,1,2,3] Af (.inr rfl) ?_
       refine Kq [0,1,2,3,5,4] [(Ak w),(AQ c z),(AX z),(AV y8 z),(bk n55 #[i6 0,i6 0,i6 0] 111),(Nh c p y8 n32)] rfl rfl ?_
       refine Dt [1,2,4,5,6,50] [(1,Ac p),(2,pt z),(AA z),(AB z),(6,pt n55),(OJ c p y8)] ?_
       exact hv44 ⟨(n55+1,n55,n32),by first | omega | (dsimp only;omega)⟩
      refine BC o0 [1,2,4,5,49,6] [] [(1,Ac p),(2,pt z),(AA z),(AB z),(49,.slice (some ⟨n32,0,none⟩) 4 4),(6,pt (n32+1))] ⟨w,n32+2,[(Ak w),(AQ c z),(AX z),(AV y8 z),(Nh c p y8 n32),(bk (n32+1) #[i6 0,i6 0,i6 0] 111)]⟩ [0,1,2,3] Af (.inr rfl) ?_
      refine Kq [0,1,2,3,5,4] [(Ak w),(AQ c z),(AX z),(AV y8 z),(bk (n32+1) #[i6 0,i6 0,i6 0] 111),(Nh c p y8 n32)] rfl rfl ?_
      refine Dt [1,2,4,5,6,49] [(1,Ac p),(2,pt z),(AA z),(AB z),(6,pt (n32+1)),(49,.slice (some ⟨n32,0,none⟩) 4 4)] ?_
      exact hv49 ⟨(n32+2,n32+1,n32),by first | omega | (dsimp only;omega)⟩
     refine BC o0 [1,2,4,5,19,30,41,48,6] [] [(1,Ac p),(2,pt z),(AA z),(AB z),(Ju c p),(OL p y8),(Nz p y8),(Jv p y8),(6,pt n32)] ⟨w,n32+1,[(Ak w),(AQ c z),(AX z),(AV y8 z),(bk n32 #[i6 0,i6 0,i6 0] 111)]⟩ [0,1,2,3] Af (.inr rfl) ?_
     refine Dt [6,1,2,4,5,19,30,41,48] [(6,pt n32),(1,Ac p),(2,pt z),(AA z),(AB z),(Ju c p),(OL p y8),(Nz p y8),(Jv p y8)] ?_
     exact hv34 ⟨(n32+1,n32),by first | omega | (dsimp only;omega)⟩
    rintro⟨⟨n15,b16,b17⟩,hJ57⟩
    simp only at hJ57
    show E _ _ [(1,Ac p),(2,pt z),(AA z),(AB z),(6,pt b17)] _ ⟨w,n15,[(Ak w),(AQ c z),(AX z),(AV y8 z),(bk b16 #[i6 ((Ae (AC c p) 405 ⟨(p:Int), -1⟩).e),i6 ((Ae (AC c p) 405 ⟨(p:Int), -1⟩).Ag.First),i6 ((Ae (AC c p) 405 ⟨(p:Int), -1⟩).Ag.Second),i6 ((Ae (win y8.Bj 0 15) 406 ⟨(p:Int), -1⟩).e),i6 ((Ae (win y8.Bj 0 15) 406 ⟨(p:Int), -1⟩).Ag.First),i6 ((Ae (win y8.Bj 0 15) 406 ⟨(p:Int), -1⟩).Ag.Second),i6 ((Ae (win y8.BM 0 16) 407 ⟨(p:Int), -1⟩).e),i6 ((Ae (win y8.BM 0 16) 407 ⟨(p:Int), -1⟩).Ag.First),i6 ((Ae (win y8.BM 0 16) 407 ⟨(p:Int), -1⟩).Ag.Second),i6 ((Ae (win (y8.Ai.xs.length:Int) 1 8) 408 ⟨(p:Int), -1⟩).e),i6 ((Ae (win (y8.Ai.xs.length:Int) 1 8) 408 ⟨(p:Int), -1⟩).Ag.First),i6 ((Ae (win (y8.Ai.xs.length:Int) 1 8) 408 ⟨(p:Int), -1⟩).Ag.Second)] 111),(UV c p y8 b17)]⟩ _ _ _
    refine BX [0,1,2,3,5] [(Ak w),(AQ c z),(AX z),(AV y8 z),(UV c p y8 b17)] rfl rfl ?_
    have eA:Ba (Jj c p)=(Ba [(Ae (AC c p) 405 ⟨(p:Int), -1⟩),(Ae (win y8.Bj 0 15) 406 ⟨(p:Int), -1⟩),(Ae (win y8.BM 0 16) 407 ⟨(p:Int), -1⟩),(Ae (win (y8.Ai.xs.length:Int) 1 8) 408 ⟨(p:Int), -1⟩)]):=by have e0:Gz c p=y8:=hy8.symm;unfold Jj;simp only[e0];simp[h11,h13]
    refine BR [1,2,4,5,6] [(1,Ac p),(2,pt z),(AA z),(AB z),(6,pt b17)] ?_
    refine Cf (fun a w' hs=>⟨n15,b17,by omega,(by(try dsimp only[UV,AX,AV,AQ,Jv,OL,Nz,Ju,OZ,AA,AB,CW]at hs ⊢);rw[eA];exact hs)⟩)
   have hd58:=Ko h13
   refine Eo 38 [0,1,2,3] [(Ak w),(AQ c z),(AX z),(AV y8 z)] rfl rfl ?_
   refine D6 [(0,(an 7 1)),(1,o0),(3,o0),(6,o0),(7,(a1 3)),(14,o0),(17,o0),(18,(a1 3)),(25,o0),(28,o0),(29,(a1 3)),(30,o0),(32,o0)] [1,2,4,5,14,15,17,21,28,32,39,44,46] [Qb z,Qb z,Qb z,Qb z,Qb z,Qb z,Qb z,Qb (z+2),Qb (z+2),Qb (z+2)] [true,true,false,true,false,false,true,true,false,false,false,false,false,false,true,false,false,true,true,false,false,false,false,false,false,true,false,false,true,true,true,false,true,false,false,false,false,false,false] [(1,Ac p),(2,pt z),(AA z),(AB z),(14,.agg (Aj.arr c)),(15,Ac p),(17,Ac p),(21,i6 y8.FX),(28,Ac p),(32,i6 y8.FU),(39,Ac p),(OZ y8),(46,Ac p)] ⟨rfl,rfl,rfl,rfl,rfl,rfl,rfl,rfl,rfl,rfl,Af⟩ ?_
   refine Oq (fun x:{p:Nat×Nat×Nat // z+3≤p.1∧z+3≤p.2.1∧z+3≤p.2.2}=>([(1,Ac p),(2,pt z),(AA z),(AB z),(6,pt x.1.2.2)],⟨w,x.1.1,[(Ak w),(AQ c z),(AX z),(AV y8 z),(.blk x.1.2.1 (.cells #[i6 ((Ae (AC c p) 405 ⟨(p:Int), -1⟩).e),i6 ((Ae (AC c p) 405 ⟨(p:Int), -1⟩).Ag.First),i6 ((Ae (AC c p) 405 ⟨(p:Int), -1⟩).Ag.Second),i6 ((Ae (win y8.Bj 0 15) 406 ⟨(p:Int), -1⟩).e),i6 ((Ae (win y8.Bj 0 15) 406 ⟨(p:Int), -1⟩).Ag.First),i6 ((Ae (win y8.Bj 0 15) 406 ⟨(p:Int), -1⟩).Ag.Second),i6 ((Ae false 407 ⟨(p:Int), -1⟩).e),i6 ((Ae false 407 ⟨(p:Int), -1⟩).Ag.First),i6 ((Ae false 407 ⟨(p:Int), -1⟩).Ag.Second),i6 ((Ae (win (y8.Ai.xs.length:Int) 1 8) 408 ⟨(p:Int), -1⟩).e),i6 ((Ae (win (y8.Ai.xs.length:Int) 1 8) 408 ⟨(p:Int), -1⟩).Ag.First),i6 ((Ae (win (y8.Ai.xs.length:Int) 1 8) 408 ⟨(p:Int), -1⟩).Ag.Second)] 111 (0,0)) true),(.blk x.1.2.2 (.cells (Am.arr (Ba [(Ae (AC c p) 405 ⟨(p:Int), -1⟩),(Ae (win y8.Bj 0 15) 406 ⟨(p:Int), -1⟩),(Ae false 407 ⟨(p:Int), -1⟩),(Ae (win (y8.Ai.xs.length:Int) 1 8) 408 ⟨(p:Int), -1⟩)])) 111 (0,0)) true)]⟩)) (fun hK => ?_) ?_
   ·refine NR 37 6 [.cl 2 (.bool (AC c p)),.cl 4 (.agg #[(Ac p),i6 (-1)]),.cl 5 (.agg (Am.arr (Ae (AC c p) 405 ⟨(p:Int), -1⟩))),.cl 8 (.bool (win y8.FX 0 2)),.tk 9 (ov (.bool true)),.tk 10 o0,.tk 11 (a1 3),.cl 12 (.bool (win y8.Bj 0 15)),.tk 13 o0,.cl 15 (.agg #[(Ac p),i6 (-1)]),.cl 16 (.agg (Am.arr (Ae (win y8.Bj 0 15) 406 ⟨(p:Int), -1⟩))),.cl 19 (.bool (win y8.FU 0 16)),.tk 20 (ov (.bool false)),.tk 21 o0,.tk 22 o0,.tk 23 o0,.tk 24 o0,.cl 26 (.agg #[(Ac p),i6 (-1)]),.cl 27 (.agg (Am.arr (Ae false 407 ⟨(p:Int), -1⟩))),.cl 31 (.bool (win (y8.Ai.xs.length:Int) 1 8)),.cl 33 (.agg #[(Ac p),i6 (-1)]),.cl 34 (.agg (Am.arr (Ae (win (y8.Ai.xs.length:Int) 1 8) 408 ⟨(p:Int), -1⟩)))] [1,2,4,5,19,30,41,48] [(92,#[.agg (Aj.arr c),Ac p],.bool (AC c p)),(93,#[(Ac p)],.agg #[(Ac p),i6 (-1)]),(62,#[.bool (AC c p),i6 405,.agg #[(Ac p),i6 (-1)]],.agg (Am.arr (Ae (AC c p) 405 ⟨(p:Int), -1⟩))),(63,#[i6 y8.FX,i6 0,i6 2],.bool (win y8.FX 0 2)),(63,#[i6 y8.Bj,i6 0,i6 15],.bool (win y8.Bj 0 15)),(93,#[(Ac p)],.agg #[(Ac p),i6 (-1)]),(62,#[.bool (win y8.Bj 0 15),i6 406,.agg #[(Ac p),i6 (-1)]],.agg (Am.arr (Ae (win y8.Bj 0 15) 406 ⟨(p:Int), -1⟩))),(63,#[i6 y8.FU,i6 0,i6 16],.bool (win y8.FU 0 16)),(93,#[(Ac p)],.agg #[(Ac p),i6 (-1)]),(62,#[.bool false,i6 407,.agg #[(Ac p),i6 (-1)]],.agg (Am.arr (Ae false 407 ⟨(p:Int), -1⟩))),(63,#[(Ac y8.Ai.xs.length),i6 1,i6 8],.bool (win (y8.Ai.xs.length:Int) 1 8)),(93,#[(Ac p)],.agg #[(Ac p),i6 (-1)]),(62,#[.bool (win (y8.Ai.xs.length:Int) 1 8),i6 408,.agg #[(Ac p),i6 (-1)]],.agg (Am.arr (Ae (win (y8.Ai.xs.length:Int) 1 8) 408 ⟨(p:Int), -1⟩)))] (DC 35 4) [Value.bool (win y8.FX 0 2)=Value.bool true,Qb (z+2),Value.bool (win y8.FU 0 16)=Value.bool false] [(1,Ac p),(2,pt z),(AA z),(AB z),(Ju c p),(OL p y8),(OG p),(Jv p y8)] (.cells #[i6 0,i6 0,i6 0] 111 (0,0)) [0,1,2,3] ⟨(congrArg Value.bool h11),rfl,(congrArg Value.bool (Bool.eq_false_iff.2 h13)),Af⟩ ⟨fun w62 hw62=>Qg w62 c (hc.ext (hw62.ext rfl) (fun _ h=>h)) p hp,fun w63 hw63=>Dh w63 (p:Int),fun w64 hw64=>AY w64 (hL.ext (hw64.ext rfl)) (AC c p) 405 (p:Int) (-1),fun w65 hw65=>BL w65 y8.FX 0 2,fun w66 hw66=>BL w66 y8.Bj 0 15,fun w67 hw67=>Dh w67 (p:Int),fun w68 hw68=>AY w68 (hL.ext (hw68.ext rfl)) (win y8.Bj 0 15) 406 (p:Int) (-1),fun w69 hw69=>BL w69 y8.FU 0 16,fun w70 hw70=>Dh w70 (p:Int),fun w71 hw71=>AY w71 (hL.ext (hw71.ext rfl)) false 407 (p:Int) (-1),fun w72 hw72=>BL w72 (y8.Ai.xs.length:Int) 1 8,fun w73 hw73=>Dh w73 (p:Int),fun w74 hw74=>AY w74 (hL.ext (hw74.ext rfl)) (win (y8.Ai.xs.length:Int) 1 8) 408 (p:Int) (-1),Af⟩ ?_ (fun hv77 n75 hn76 => ?_)
    ·rintro⟨⟨n78,b79⟩,hb80⟩
     simp only at hb80
     refine Bv 35 ?_
     refine BC o0 [6,1,2,4,5,49] [] [(6,pt b79),(1,Ac p),(2,pt z),(AA z),(AB z),(49,.slice (some ⟨n78,0,none⟩) 4 4)] ⟨w,n78+1,[(Ak w),(AQ c z),(AX z),(AV y8 z),(bk b79 #[i6 0,i6 0,i6 0] 111),(Lm c p y8 n78)]⟩ [0,1,2,3] Af (.inr rfl) ?_
     refine Bv 36 ?_
     refine FM 91 #[.slice (some ⟨n78,0,none⟩) 4 4] (some 50) (.agg (Am.arr (Ba [(Ae (AC c p) 405 ⟨(p:Int), -1⟩),(Ae (win y8.Bj 0 15) 406 ⟨(p:Int), -1⟩),(Ae false 407 ⟨(p:Int), -1⟩),(Ae (win (y8.Ai.xs.length:Int) 1 8) 408 ⟨(p:Int), -1⟩)]))) [6,1,2,4,5,50] [(6,pt b79),(1,Ac p),(2,pt z),(AA z),(AB z),(OE c p y8)] [0,1,2,3] (fun w81 hw81=>Dp w81 (hL.ext (hw81.ext rfl)) ⟨some ⟨n78,0,none⟩,4,[(Ae (AC c p) 405 ⟨(p:Int), -1⟩),(Ae (win y8.Bj 0 15) 406 ⟨(p:Int), -1⟩),(Ae false 407 ⟨(p:Int), -1⟩),(Ae (win (y8.Ai.xs.length:Int) 1 8) 408 ⟨(p:Int), -1⟩)]⟩ (Eb hw81 (i:=5) [(Ae (AC c p) 405 ⟨(p:Int), -1⟩),(Ae (win y8.Bj 0 15) 406 ⟨(p:Int), -1⟩),(Ae false 407 ⟨(p:Int), -1⟩),(Ae (win (y8.Ai.xs.length:Int) 1 8) 408 ⟨(p:Int), -1⟩)]) (show 4≤1000 by decide)) (fun n82 hn83 => ?_)
     replace hn83:n78+1≤n82:=hn83
     refine Bv 38 ?_
     refine BC (an 3 4) [6,1,2,4,5] [Qb b79,Qb b79,Qb b79] [(6,pt b79),(1,Ac p),(2,pt z),(AA z),(AB z)] ⟨w,n82,[(Ak w),(AQ c z),(AX z),(AV y8 z),(Xl c p y8 b79),(Lm c p y8 n78)]⟩ [] ⟨rfl,rfl,rfl,Af⟩ (.inl rfl) ?_
     refine DV 39 [0,1,2,3,4,5] [(Ak w),(AQ c z),(AX z),(AV y8 z),(Xl c p y8 b79),(Lm c p y8 n78)] rfl rfl ?_
     refine Dl ?_
     refine BR [1,2,4,5,6] [(1,Ac p),(2,pt z),(AA z),(AB z),(6,pt b79)] ?_
     refine BX [0,1,2,3,5,4] [(Ak w),(AQ c z),(AX z),(AV y8 z),(Lm c p y8 n78),(Xl c p y8 b79)] rfl rfl ?_
     exact hK ⟨(n82,n78,b79),by first | omega | (dsimp only;omega)⟩
    replace hn76:z+3≤n75:=hn76
    refine LM (fun x:{p:Nat×Nat×Nat // n75≤p.1∧n75≤p.2.1∧n75≤p.2.2}=>[(1,Ac p),(2,pt z),(AA z),(AB z),(6,pt x.1.2.1),(OE c p y8)]) (fun x=>⟨w,x.1.1,[(Ak w),(AQ c z),(AX z),(AV y8 z),(.blk x.1.2.1 (.cells #[i6 0,i6 0,i6 0] 111 (0,0)) true),(.blk x.1.2.2 (.cells #[i6 ((Ae (AC c p) 405 ⟨(p:Int), -1⟩).e),i6 ((Ae (AC c p) 405 ⟨(p:Int), -1⟩).Ag.First),i6 ((Ae (AC c p) 405 ⟨(p:Int), -1⟩).Ag.Second),i6 ((Ae (win y8.Bj 0 15) 406 ⟨(p:Int), -1⟩).e),i6 ((Ae (win y8.Bj 0 15) 406 ⟨(p:Int), -1⟩).Ag.First),i6 ((Ae (win y8.Bj 0 15) 406 ⟨(p:Int), -1⟩).Ag.Second),i6 ((Ae false 407 ⟨(p:Int), -1⟩).e),i6 ((Ae false 407 ⟨(p:Int), -1⟩).Ag.First),i6 ((Ae false 407 ⟨(p:Int), -1⟩).Ag.Second),i6 ((Ae (win (y8.Ai.xs.length:Int) 1 8) 408 ⟨(p:Int), -1⟩).e),i6 ((Ae (win (y8.Ai.xs.length:Int) 1 8) 408 ⟨(p:Int), -1⟩).Ag.First),i6 ((Ae (win (y8.Ai.xs.length:Int) 1 8) 408 ⟨(p:Int), -1⟩).Ag.Second)] 111 (0,0)) true)]⟩) 1 (DC 38 1) ?_ (fun hv87 => ?_)
    ·rintro⟨⟨n84,b85,b86⟩,hb88⟩
     simp only at hb88
     show Wg _ _ [(1,Ac p),(2,pt z),(AA z),(AB z),(6,pt b85),(OE c p y8)] _ ⟨w,n84,[(Ak w),(AQ c z),(AX z),(AV y8 z),(bk b85 #[i6 0,i6 0,i6 0] 111),(MN c p y8 b86)]⟩ _ _ _ _ _ _ _
     refine Bv 38 ?_
     refine BC (an 3 4) [1,2,4,5,6] [Qb b85,Qb b85,Qb b85] [(1,Ac p),(2,pt z),(AA z),(AB z),(6,pt b85)] ⟨w,n84,[(Ak w),(AQ c z),(AX z),(AV y8 z),(WU c p y8 b85),(MN c p y8 b86)]⟩ [] ⟨rfl,rfl,rfl,Af⟩ (.inl rfl) ?_
     refine DV 39 [0,1,2,3,4,5] [(Ak w),(AQ c z),(AX z),(AV y8 z),(WU c p y8 b85),(MN c p y8 b86)] rfl rfl ?_
     refine Dl ?_
     refine BR [1,2,4,5,6] [(1,Ac p),(2,pt z),(AA z),(AB z),(6,pt b85)] ?_
     refine BX [0,1,2,3,5,4] [(Ak w),(AQ c z),(AX z),(AV y8 z),(MN c p y8 b86),(WU c p y8 b85)] rfl rfl ?_
     exact hK ⟨(n84,b86,b85),by first | omega | (dsimp only;omega)⟩
    refine LM (fun x:{p:Nat×Nat×Nat // n75≤p.1∧n75≤p.2.1∧n75≤p.2.2}=>[(1,Ac p),(2,pt z),(AA z),(AB z),(6,pt x.1.2.1),(49,.slice (some ⟨x.1.2.2,0,none⟩) 4 4)]) (fun x=>⟨w,x.1.1,[(Ak w),(AQ c z),(AX z),(AV y8 z),(.blk x.1.2.1 (.cells #[i6 0,i6 0,i6 0] 111 (0,0)) true),(.blk x.1.2.2 (.cells #[i6 ((Ae (AC c p) 405 ⟨(p:Int), -1⟩).e),i6 ((Ae (AC c p) 405 ⟨(p:Int), -1⟩).Ag.First),i6 ((Ae (AC c p) 405 ⟨(p:Int), -1⟩).Ag.Second),i6 ((Ae (win y8.Bj 0 15) 406 ⟨(p:Int), -1⟩).e),i6 ((Ae (win y8.Bj 0 15) 406 ⟨(p:Int), -1⟩).Ag.First),i6 ((Ae (win y8.Bj 0 15) 406 ⟨(p:Int), -1⟩).Ag.Second),i6 ((Ae false 407 ⟨(p:Int), -1⟩).e),i6 ((Ae false 407 ⟨(p:Int), -1⟩).Ag.First),i6 ((Ae false 407 ⟨(p:Int), -1⟩).Ag.Second),i6 ((Ae (win (y8.Ai.xs.length:Int) 1 8) 408 ⟨(p:Int), -1⟩).e),i6 ((Ae (win (y8.Ai.xs.length:Int) 1 8) 408 ⟨(p:Int), -1⟩).Ag.First),i6 ((Ae (win (y8.Ai.xs.length:Int) 1 8) 408 ⟨(p:Int), -1⟩).Ag.Second)] 111 (0,0)) true)]⟩) 2 [true,true,true,true,true,true,true,true,true,true,true,true,true,true,true,true,true,true,true,true,true,true,true,true,true,true,true,true,true,true,true,true,true,true,true,true,false,true,false] ?_ (fun hv92 => ?_)
    ·rintro⟨⟨n89,b90,b91⟩,hb93⟩
     simp only at hb93
     show Wg _ _ [(1,Ac p),(2,pt z),(AA z),(AB z),(6,pt b90),(49,.slice (some ⟨b91,0,none⟩) 4 4)] _ ⟨w,n89,[(Ak w),(AQ c z),(AX z),(AV y8 z),(bk b90 #[i6 0,i6 0,i6 0] 111),(bk b91 #[i6 ((Ae (AC c p) 405 ⟨(p:Int), -1⟩).e),i6 ((Ae (AC c p) 405 ⟨(p:Int), -1⟩).Ag.First),i6 ((Ae (AC c p) 405 ⟨(p:Int), -1⟩).Ag.Second),i6 ((Ae (win y8.Bj 0 15) 406 ⟨(p:Int), -1⟩).e),i6 ((Ae (win y8.Bj 0 15) 406 ⟨(p:Int), -1⟩).Ag.First),i6 ((Ae (win y8.Bj 0 15) 406 ⟨(p:Int), -1⟩).Ag.Second),i6 ((Ae false 407 ⟨(p:Int), -1⟩).e),i6 ((Ae false 407 ⟨(p:Int), -1⟩).Ag.First),i6 ((Ae false 407 ⟨(p:Int), -1⟩).Ag.Second),i6 ((Ae (win (y8.Ai.xs.length:Int) 1 8) 408 ⟨(p:Int), -1⟩).e),i6 ((Ae (win (y8.Ai.xs.length:Int) 1 8) 408 ⟨(p:Int), -1⟩).Ag.First),i6 ((Ae (win (y8.Ai.xs.length:Int) 1 8) 408 ⟨(p:Int), -1⟩).Ag.Second)] 111)]⟩ _ _ _ _ _ _ _
     refine Bv 36 ?_
     refine FM 91 #[.slice (some ⟨b91,0,none⟩) 4 4] (some 50) (.agg (Am.arr (Ba [(Ae (AC c p) 405 ⟨(p:Int), -1⟩),(Ae (win y8.Bj 0 15) 406 ⟨(p:Int), -1⟩),(Ae false 407 ⟨(p:Int), -1⟩),(Ae (win (y8.Ai.xs.length:Int) 1 8) 408 ⟨(p:Int), -1⟩)]))) [1,2,4,5,6,50] [(1,Ac p),(2,pt z),(AA z),(AB z),(6,pt b90),(OE c p y8)] [0,1,2,3] (fun w94 hw94=>Dp w94 (hL.ext (hw94.ext rfl)) ⟨some ⟨b91,0,none⟩,4,[(Ae (AC c p) 405 ⟨(p:Int), -1⟩),(Ae (win y8.Bj 0 15) 406 ⟨(p:Int), -1⟩),(Ae false 407 ⟨(p:Int), -1⟩),(Ae (win (y8.Ai.xs.length:Int) 1 8) 408 ⟨(p:Int), -1⟩)]⟩ (Eb hw94 (i:=5) [(Ae (AC c p) 405 ⟨(p:Int), -1⟩),(Ae (win y8.Bj 0 15) 406 ⟨(p:Int), -1⟩),(Ae false 407 ⟨(p:Int), -1⟩),(Ae (win (y8.Ai.xs.length:Int) 1 8) 408 ⟨(p:Int), -1⟩)]) (show 4≤1000 by decide)) (fun n95 hn96 => ?_)
     replace hn96:n89≤n95:=hn96
     refine Dt [1,2,4,5,6,50] [(1,Ac p),(2,pt z),(AA z),(AB z),(6,pt b90),(OE c p y8)] ?_
     exact hv87 ⟨(n95,b90,b91),by first | omega | (dsimp only;omega)⟩
    refine Io [35,37] ?_
    refine List.forall_mem_cons.2 ⟨?_,List.forall_mem_cons.2 ⟨?_,fun _ h=>absurd h List.not_mem_nil⟩⟩
    ·refine BC o0 [1,2,4,5,49] [] [(1,Ac p),(2,pt z),(AA z),(AB z),(49,.slice (some ⟨n75,0,none⟩) 4 4)] ⟨w,n75+1,[(Ak w),(AQ c z),(AX z),(AV y8 z),(JG c p y8 n75)]⟩ [0,1,2,3] Af (.inr rfl) ?_
     refine Io [36,37] ?_
     refine List.forall_mem_cons.2 ⟨?_,List.forall_mem_cons.2 ⟨?_,fun _ h=>absurd h List.not_mem_nil⟩⟩
     ·refine FM 91 #[.slice (some ⟨n75,0,none⟩) 4 4] (some 50) (.agg (Am.arr (Ba [(Ae (AC c p) 405 ⟨(p:Int), -1⟩),(Ae (win y8.Bj 0 15) 406 ⟨(p:Int), -1⟩),(Ae false 407 ⟨(p:Int), -1⟩),(Ae (win (y8.Ai.xs.length:Int) 1 8) 408 ⟨(p:Int), -1⟩)]))) [1,2,4,5,50] [(1,Ac p),(2,pt z),(AA z),(AB z),(OE c p y8)] [0,1,2,3] (fun w97 hw97=>Dp w97 (hL.ext (hw97.ext rfl)) ⟨some ⟨n75,0,none⟩,4,[(Ae (AC c p) 405 ⟨(p:Int), -1⟩),(Ae (win y8.Bj 0 15) 406 ⟨(p:Int), -1⟩),(Ae false 407 ⟨(p:Int), -1⟩),(Ae (win (y8.Ai.xs.length:Int) 1 8) 408 ⟨(p:Int), -1⟩)]⟩ (Eb hw97 (i:=4) [(Ae (AC c p) 405 ⟨(p:Int), -1⟩),(Ae (win y8.Bj 0 15) 406 ⟨(p:Int), -1⟩),(Ae false 407 ⟨(p:Int), -1⟩),(Ae (win (y8.Ai.xs.length:Int) 1 8) 408 ⟨(p:Int), -1⟩)]) (show 4≤1000 by decide)) (fun n98 hn99 => ?_)
      replace hn99:n75+1≤n98:=hn99
      refine Bv 37 ?_
      refine BC o0 [1,2,4,5,50,6] [] [(1,Ac p),(2,pt z),(AA z),(AB z),(OE c p y8),(6,pt n98)] ⟨w,n98+1,[(Ak w),(AQ c z),(AX z),(AV y8 z),(JG c p y8 n75),(bk n98 #[i6 0,i6 0,i6 0] 111)]⟩ [0,1,2,3] Af (.inr rfl) ?_
      refine Kq [0,1,2,3,5,4] [(Ak w),(AQ c z),(AX z),(AV y8 z),(bk n98 #[i6 0,i6 0,i6 0] 111),(JG c p y8 n75)] rfl rfl ?_
      refine Dt [1,2,4,5,6,50] [(1,Ac p),(2,pt z),(AA z),(AB z),(6,pt n98),(OE c p y8)] ?_
      exact hv87 ⟨(n98+1,n98,n75),by first | omega | (dsimp only;omega)⟩
     refine BC o0 [1,2,4,5,49,6] [] [(1,Ac p),(2,pt z),(AA z),(AB z),(49,.slice (some ⟨n75,0,none⟩) 4 4),(6,pt (n75+1))] ⟨w,n75+2,[(Ak w),(AQ c z),(AX z),(AV y8 z),(JG c p y8 n75),(bk (n75+1) #[i6 0,i6 0,i6 0] 111)]⟩ [0,1,2,3] Af (.inr rfl) ?_
     refine Kq [0,1,2,3,5,4] [(Ak w),(AQ c z),(AX z),(AV y8 z),(bk (n75+1) #[i6 0,i6 0,i6 0] 111),(JG c p y8 n75)] rfl rfl ?_
     refine Dt [1,2,4,5,6,49] [(1,Ac p),(2,pt z),(AA z),(AB z),(6,pt (n75+1)),(49,.slice (some ⟨n75,0,none⟩) 4 4)] ?_
     exact hv92 ⟨(n75+2,n75+1,n75),by first | omega | (dsimp only;omega)⟩
    refine BC o0 [1,2,4,5,19,30,41,48,6] [] [(1,Ac p),(2,pt z),(AA z),(AB z),(Ju c p),(OL p y8),(OG p),(Jv p y8),(6,pt n75)] ⟨w,n75+1,[(Ak w),(AQ c z),(AX z),(AV y8 z),(bk n75 #[i6 0,i6 0,i6 0] 111)]⟩ [0,1,2,3] Af (.inr rfl) ?_
    refine Dt [6,1,2,4,5,19,30,41,48] [(6,pt n75),(1,Ac p),(2,pt z),(AA z),(AB z),(Ju c p),(OL p y8),(OG p),(Jv p y8)] ?_
    exact hv77 ⟨(n75+1,n75),by first | omega | (dsimp only;omega)⟩
   rintro⟨⟨n59,b60,b61⟩,hJ100⟩
   simp only at hJ100
   show E _ _ [(1,Ac p),(2,pt z),(AA z),(AB z),(6,pt b61)] _ ⟨w,n59,[(Ak w),(AQ c z),(AX z),(AV y8 z),(bk b60 #[i6 ((Ae (AC c p) 405 ⟨(p:Int), -1⟩).e),i6 ((Ae (AC c p) 405 ⟨(p:Int), -1⟩).Ag.First),i6 ((Ae (AC c p) 405 ⟨(p:Int), -1⟩).Ag.Second),i6 ((Ae (win y8.Bj 0 15) 406 ⟨(p:Int), -1⟩).e),i6 ((Ae (win y8.Bj 0 15) 406 ⟨(p:Int), -1⟩).Ag.First),i6 ((Ae (win y8.Bj 0 15) 406 ⟨(p:Int), -1⟩).Ag.Second),i6 ((Ae false 407 ⟨(p:Int), -1⟩).e),i6 ((Ae false 407 ⟨(p:Int), -1⟩).Ag.First),i6 ((Ae false 407 ⟨(p:Int), -1⟩).Ag.Second),i6 ((Ae (win (y8.Ai.xs.length:Int) 1 8) 408 ⟨(p:Int), -1⟩).e),i6 ((Ae (win (y8.Ai.xs.length:Int) 1 8) 408 ⟨(p:Int), -1⟩).Ag.First),i6 ((Ae (win (y8.Ai.xs.length:Int) 1 8) 408 ⟨(p:Int), -1⟩).Ag.Second)] 111),(XK c p y8 b61)]⟩ _ _ _
   refine BX [0,1,2,3,5] [(Ak w),(AQ c z),(AX z),(AV y8 z),(XK c p y8 b61)] rfl rfl ?_
   have eA:Ba (Jj c p)=(Ba [(Ae (AC c p) 405 ⟨(p:Int), -1⟩),(Ae (win y8.Bj 0 15) 406 ⟨(p:Int), -1⟩),(Ae false 407 ⟨(p:Int), -1⟩),(Ae (win (y8.Ai.xs.length:Int) 1 8) 408 ⟨(p:Int), -1⟩)]):=by have e0:Gz c p=y8:=hy8.symm;unfold Jj;simp only[e0];simp[h11,h13]
   refine BR [1,2,4,5,6] [(1,Ac p),(2,pt z),(AA z),(AB z),(6,pt b61)] ?_
   refine Cf (fun a w' hs=>⟨n59,b61,by omega,(by(try dsimp only[UV,XK,AX,AV,AQ,Jv,OL,Nz,Ju,OG,OZ,AA,AB,CW]at hs ⊢);rw[eA];exact hs)⟩)
  have hd101:=Ko h11
  by_cases h102:(win y8.FU 0 16)=true
  ·have hd103:=H8 h102
   refine Eo 38 [0,1,2,3] [(Ak w),(AQ c z),(AX z),(AV y8 z)] rfl rfl ?_
   refine D6 [(0,(an 7 1)),(1,o0),(3,o0),(6,o0),(7,(a1 3)),(14,o0),(17,o0),(18,(a1 3)),(25,o0),(28,o0),(29,(a1 3)),(30,o0),(32,o0)] [1,2,4,5,14,15,17,21,28,32,39,44,46] [Qb z,Qb z,Qb z,Qb z,Qb z,Qb z,Qb z,Qb (z+2),Qb (z+2),Qb (z+2)] [true,true,false,true,false,false,true,true,false,false,false,false,false,false,true,false,false,true,true,false,false,false,false,false,false,true,false,false,true,true,true,false,true,false,false,false,false,false,false] [(1,Ac p),(2,pt z),(AA z),(AB z),(14,.agg (Aj.arr c)),(15,Ac p),(17,Ac p),(21,i6 y8.FX),(28,Ac p),(32,i6 y8.FU),(39,Ac p),(OZ y8),(46,Ac p)] ⟨rfl,rfl,rfl,rfl,rfl,rfl,rfl,rfl,rfl,rfl,Af⟩ ?_
   refine Oq (fun x:{p:Nat×Nat×Nat // z+3≤p.1∧z+3≤p.2.1∧z+3≤p.2.2}=>([(1,Ac p),(2,pt z),(AA z),(AB z),(6,pt x.1.2.2)],⟨w,x.1.1,[(Ak w),(AQ c z),(AX z),(AV y8 z),(.blk x.1.2.1 (.cells #[i6 ((Ae (AC c p) 405 ⟨(p:Int), -1⟩).e),i6 ((Ae (AC c p) 405 ⟨(p:Int), -1⟩).Ag.First),i6 ((Ae (AC c p) 405 ⟨(p:Int), -1⟩).Ag.Second),i6 ((Ae false 406 ⟨(p:Int), -1⟩).e),i6 ((Ae false 406 ⟨(p:Int), -1⟩).Ag.First),i6 ((Ae false 406 ⟨(p:Int), -1⟩).Ag.Second),i6 ((Ae (win y8.BM 0 16) 407 ⟨(p:Int), -1⟩).e),i6 ((Ae (win y8.BM 0 16) 407 ⟨(p:Int), -1⟩).Ag.First),i6 ((Ae (win y8.BM 0 16) 407 ⟨(p:Int), -1⟩).Ag.Second),i6 ((Ae (win (y8.Ai.xs.length:Int) 1 8) 408 ⟨(p:Int), -1⟩).e),i6 ((Ae (win (y8.Ai.xs.length:Int) 1 8) 408 ⟨(p:Int), -1⟩).Ag.First),i6 ((Ae (win (y8.Ai.xs.length:Int) 1 8) 408 ⟨(p:Int), -1⟩).Ag.Second)] 111 (0,0)) true),(.blk x.1.2.2 (.cells (Am.arr (Ba [(Ae (AC c p) 405 ⟨(p:Int), -1⟩),(Ae false 406 ⟨(p:Int), -1⟩),(Ae (win y8.BM 0 16) 407 ⟨(p:Int), -1⟩),(Ae (win (y8.Ai.xs.length:Int) 1 8) 408 ⟨(p:Int), -1⟩)])) 111 (0,0)) true)]⟩)) (fun hK => ?_) ?_
   ·refine NR 37 6 [.cl 2 (.bool (AC c p)),.cl 4 (.agg #[(Ac p),i6 (-1)]),.cl 5 (.agg (Am.arr (Ae (AC c p) 405 ⟨(p:Int), -1⟩))),.cl 8 (.bool (win y8.FX 0 2)),.tk 9 (ov (.bool false)),.tk 10 o0,.tk 11 o0,.tk 12 o0,.tk 13 o0,.cl 15 (.agg #[(Ac p),i6 (-1)]),.cl 16 (.agg (Am.arr (Ae false 406 ⟨(p:Int), -1⟩))),.cl 19 (.bool (win y8.FU 0 16)),.tk 20 (ov (.bool true)),.tk 21 o0,.tk 22 (a1 3),.cl 23 (.bool (win y8.BM 0 16)),.tk 24 o0,.cl 26 (.agg #[(Ac p),i6 (-1)]),.cl 27 (.agg (Am.arr (Ae (win y8.BM 0 16) 407 ⟨(p:Int), -1⟩))),.cl 31 (.bool (win (y8.Ai.xs.length:Int) 1 8)),.cl 33 (.agg #[(Ac p),i6 (-1)]),.cl 34 (.agg (Am.arr (Ae (win (y8.Ai.xs.length:Int) 1 8) 408 ⟨(p:Int), -1⟩)))] [1,2,4,5,19,30,41,48] [(92,#[.agg (Aj.arr c),Ac p],.bool (AC c p)),(93,#[(Ac p)],.agg #[(Ac p),i6 (-1)]),(62,#[.bool (AC c p),i6 405,.agg #[(Ac p),i6 (-1)]],.agg (Am.arr (Ae (AC c p) 405 ⟨(p:Int), -1⟩))),(63,#[i6 y8.FX,i6 0,i6 2],.bool (win y8.FX 0 2)),(93,#[(Ac p)],.agg #[(Ac p),i6 (-1)]),(62,#[.bool false,i6 406,.agg #[(Ac p),i6 (-1)]],.agg (Am.arr (Ae false 406 ⟨(p:Int), -1⟩))),(63,#[i6 y8.FU,i6 0,i6 16],.bool (win y8.FU 0 16)),(63,#[i6 y8.BM,i6 0,i6 16],.bool (win y8.BM 0 16)),(93,#[(Ac p)],.agg #[(Ac p),i6 (-1)]),(62,#[.bool (win y8.BM 0 16),i6 407,.agg #[(Ac p),i6 (-1)]],.agg (Am.arr (Ae (win y8.BM 0 16) 407 ⟨(p:Int), -1⟩))),(63,#[(Ac y8.Ai.xs.length),i6 1,i6 8],.bool (win (y8.Ai.xs.length:Int) 1 8)),(93,#[(Ac p)],.agg #[(Ac p),i6 (-1)]),(62,#[.bool (win (y8.Ai.xs.length:Int) 1 8),i6 408,.agg #[(Ac p),i6 (-1)]],.agg (Am.arr (Ae (win (y8.Ai.xs.length:Int) 1 8) 408 ⟨(p:Int), -1⟩)))] (DC 35 4) [Value.bool (win y8.FX 0 2)=Value.bool false,Value.bool (win y8.FU 0 16)=Value.bool true,Qb (z+2)] [(1,Ac p),(2,pt z),(AA z),(AB z),(Ju c p),(Pg p),(Nz p y8),(Jv p y8)] (.cells #[i6 0,i6 0,i6 0] 111 (0,0)) [0,1,2,3] ⟨(congrArg Value.bool (Bool.eq_false_iff.2 h11)),(congrArg Value.bool h102),rfl,Af⟩ ⟨fun w107 hw107=>Qg w107 c (hc.ext (hw107.ext rfl) (fun _ h=>h)) p hp,fun w108 hw108=>Dh w108 (p:Int),fun w109 hw109=>AY w109 (hL.ext (hw109.ext rfl)) (AC c p) 405 (p:Int) (-1),fun w110 hw110=>BL w110 y8.FX 0 2,fun w111 hw111=>Dh w111 (p:Int),fun w112 hw112=>AY w112 (hL.ext (hw112.ext rfl)) false 406 (p:Int) (-1),fun w113 hw113=>BL w113 y8.FU 0 16,fun w114 hw114=>BL w114 y8.BM 0 16,fun w115 hw115=>Dh w115 (p:Int),fun w116 hw116=>AY w116 (hL.ext (hw116.ext rfl)) (win y8.BM 0 16) 407 (p:Int) (-1),fun w117 hw117=>BL w117 (y8.Ai.xs.length:Int) 1 8,fun w118 hw118=>Dh w118 (p:Int),fun w119 hw119=>AY w119 (hL.ext (hw119.ext rfl)) (win (y8.Ai.xs.length:Int) 1 8) 408 (p:Int) (-1),Af⟩ ?_ (fun hv122 n120 hn121 => ?_)
    ·rintro⟨⟨n123,b124⟩,hb125⟩
     simp only at hb125
     refine Bv 35 ?_
     refine BC o0 [6,1,2,4,5,49] [] [(6,pt b124),(1,Ac p),(2,pt z),(AA z),(AB z),(49,.slice (some ⟨n123,0,none⟩) 4 4)] ⟨w,n123+1,[(Ak w),(AQ c z),(AX z),(AV y8 z),(bk b124 #[i6 0,i6 0,i6 0] 111),(KI c p y8 n123)]⟩ [0,1,2,3] Af (.inr rfl) ?_
     refine Bv 36 ?_
     refine FM 91 #[.slice (some ⟨n123,0,none⟩) 4 4] (some 50) (.agg (Am.arr (Ba [(Ae (AC c p) 405 ⟨(p:Int), -1⟩),(Ae false 406 ⟨(p:Int), -1⟩),(Ae (win y8.BM 0 16) 407 ⟨(p:Int), -1⟩),(Ae (win (y8.Ai.xs.length:Int) 1 8) 408 ⟨(p:Int), -1⟩)]))) [6,1,2,4,5,50] [(6,pt b124),(1,Ac p),(2,pt z),(AA z),(AB z),(OO c p y8)] [0,1,2,3] (fun w126 hw126=>Dp w126 (hL.ext (hw126.ext rfl)) ⟨some ⟨n123,0,none⟩,4,[(Ae (AC c p) 405 ⟨(p:Int), -1⟩),(Ae false 406 ⟨(p:Int), -1⟩),(Ae (win y8.BM 0 16) 407 ⟨(p:Int), -1⟩),(Ae (win (y8.Ai.xs.length:Int) 1 8) 408 ⟨(p:Int), -1⟩)]⟩ (Eb hw126 (i:=5) [(Ae (AC c p) 405 ⟨(p:Int), -1⟩),(Ae false 406 ⟨(p:Int), -1⟩),(Ae (win y8.BM 0 16) 407 ⟨(p:Int), -1⟩),(Ae (win (y8.Ai.xs.length:Int) 1 8) 408 ⟨(p:Int), -1⟩)]) (show 4≤1000 by decide)) (fun n127 hn128 => ?_)
     replace hn128:n123+1≤n127:=hn128
     refine Bv 38 ?_
     refine BC (an 3 4) [6,1,2,4,5] [Qb b124,Qb b124,Qb b124] [(6,pt b124),(1,Ac p),(2,pt z),(AA z),(AB z)] ⟨w,n127,[(Ak w),(AQ c z),(AX z),(AV y8 z),(X7 c p y8 b124),(KI c p y8 n123)]⟩ [] ⟨rfl,rfl,rfl,Af⟩ (.inl rfl) ?_
     refine DV 39 [0,1,2,3,4,5] [(Ak w),(AQ c z),(AX z),(AV y8 z),(X7 c p y8 b124),(KI c p y8 n123)] rfl rfl ?_
     refine Dl ?_
     refine BR [1,2,4,5,6] [(1,Ac p),(2,pt z),(AA z),(AB z),(6,pt b124)] ?_
     refine BX [0,1,2,3,5,4] [(Ak w),(AQ c z),(AX z),(AV y8 z),(KI c p y8 n123),(X7 c p y8 b124)] rfl rfl ?_
     exact hK ⟨(n127,n123,b124),by first | omega | (dsimp only;omega)⟩
    replace hn121:z+3≤n120:=hn121
    refine LM (fun x:{p:Nat×Nat×Nat // n120≤p.1∧n120≤p.2.1∧n120≤p.2.2}=>[(1,Ac p),(2,pt z),(AA z),(AB z),(6,pt x.1.2.1),(OO c p y8)]) (fun x=>⟨w,x.1.1,[(Ak w),(AQ c z),(AX z),(AV y8 z),(.blk x.1.2.1 (.cells #[i6 0,i6 0,i6 0] 111 (0,0)) true),(.blk x.1.2.2 (.cells #[i6 ((Ae (AC c p) 405 ⟨(p:Int), -1⟩).e),i6 ((Ae (AC c p) 405 ⟨(p:Int), -1⟩).Ag.First),i6 ((Ae (AC c p) 405 ⟨(p:Int), -1⟩).Ag.Second),i6 ((Ae false 406 ⟨(p:Int), -1⟩).e),i6 ((Ae false 406 ⟨(p:Int), -1⟩).Ag.First),i6 ((Ae false 406 ⟨(p:Int), -1⟩).Ag.Second),i6 ((Ae (win y8.BM 0 16) 407 ⟨(p:Int), -1⟩).e),i6 ((Ae (win y8.BM 0 16) 407 ⟨(p:Int), -1⟩).Ag.First),i6 ((Ae (win y8.BM 0 16) 407 ⟨(p:Int), -1⟩).Ag.Second),i6 ((Ae (win (y8.Ai.xs.length:Int) 1 8) 408 ⟨(p:Int), -1⟩).e),i6 ((Ae (win (y8.Ai.xs.length:Int) 1 8) 408 ⟨(p:Int), -1⟩).Ag.First),i6 ((Ae (win (y8.Ai.xs.length:Int) 1 8) 408 ⟨(p:Int), -1⟩).Ag.Second)] 111 (0,0)) true)]⟩) 1 (DC 38 1) ?_ (fun hv132 => ?_)
    ·rintro⟨⟨n129,b130,b131⟩,hb133⟩
     simp only at hb133
     show Wg _ _ [(1,Ac p),(2,pt z),(AA z),(AB z),(6,pt b130),(OO c p y8)] _ ⟨w,n129,[(Ak w),(AQ c z),(AX z),(AV y8 z),(bk b130 #[i6 0,i6 0,i6 0] 111),(JE c p y8 b131)]⟩ _ _ _ _ _ _ _
     refine Bv 38 ?_
     refine BC (an 3 4) [1,2,4,5,6] [Qb b130,Qb b130,Qb b130] [(1,Ac p),(2,pt z),(AA z),(AB z),(6,pt b130)] ⟨w,n129,[(Ak w),(AQ c z),(AX z),(AV y8 z),(Xb c p y8 b130),(JE c p y8 b131)]⟩ [] ⟨rfl,rfl,rfl,Af⟩ (.inl rfl) ?_
     refine DV 39 [0,1,2,3,4,5] [(Ak w),(AQ c z),(AX z),(AV y8 z),(Xb c p y8 b130),(JE c p y8 b131)] rfl rfl ?_
     refine Dl ?_
     refine BR [1,2,4,5,6] [(1,Ac p),(2,pt z),(AA z),(AB z),(6,pt b130)] ?_
     refine BX [0,1,2,3,5,4] [(Ak w),(AQ c z),(AX z),(AV y8 z),(JE c p y8 b131),(Xb c p y8 b130)] rfl rfl ?_
     exact hK ⟨(n129,b131,b130),by first | omega | (dsimp only;omega)⟩
    refine LM (fun x:{p:Nat×Nat×Nat // n120≤p.1∧n120≤p.2.1∧n120≤p.2.2}=>[(1,Ac p),(2,pt z),(AA z),(AB z),(6,pt x.1.2.1),(49,.slice (some ⟨x.1.2.2,0,none⟩) 4 4)]) (fun x=>⟨w,x.1.1,[(Ak w),(AQ c z),(AX z),(AV y8 z),(.blk x.1.2.1 (.cells #[i6 0,i6 0,i6 0] 111 (0,0)) true),(.blk x.1.2.2 (.cells #[i6 ((Ae (AC c p) 405 ⟨(p:Int), -1⟩).e),i6 ((Ae (AC c p) 405 ⟨(p:Int), -1⟩).Ag.First),i6 ((Ae (AC c p) 405 ⟨(p:Int), -1⟩).Ag.Second),i6 ((Ae false 406 ⟨(p:Int), -1⟩).e),i6 ((Ae false 406 ⟨(p:Int), -1⟩).Ag.First),i6 ((Ae false 406 ⟨(p:Int), -1⟩).Ag.Second),i6 ((Ae (win y8.BM 0 16) 407 ⟨(p:Int), -1⟩).e),i6 ((Ae (win y8.BM 0 16) 407 ⟨(p:Int), -1⟩).Ag.First),i6 ((Ae (win y8.BM 0 16) 407 ⟨(p:Int), -1⟩).Ag.Second),i6 ((Ae (win (y8.Ai.xs.length:Int) 1 8) 408 ⟨(p:Int), -1⟩).e),i6 ((Ae (win (y8.Ai.xs.length:Int) 1 8) 408 ⟨(p:Int), -1⟩).Ag.First),i6 ((Ae (win (y8.Ai.xs.length:Int) 1 8) 408 ⟨(p:Int), -1⟩).Ag.Second)] 111 (0,0)) true)]⟩) 2 [true,true,true,true,true,true,true,true,true,true,true,true,true,true,true,true,true,true,true,true,true,true,true,true,true,true,true,true,true,true,true,true,true,true,true,true,false,true,false] ?_ (fun hv137 => ?_)
    ·rintro⟨⟨n134,b135,b136⟩,hb138⟩
     simp only at hb138
     show Wg _ _ [(1,Ac p),(2,pt z),(AA z),(AB z),(6,pt b135),(49,.slice (some ⟨b136,0,none⟩) 4 4)] _ ⟨w,n134,[(Ak w),(AQ c z),(AX z),(AV y8 z),(bk b135 #[i6 0,i6 0,i6 0] 111),(bk b136 #[i6 ((Ae (AC c p) 405 ⟨(p:Int), -1⟩).e),i6 ((Ae (AC c p) 405 ⟨(p:Int), -1⟩).Ag.First),i6 ((Ae (AC c p) 405 ⟨(p:Int), -1⟩).Ag.Second),i6 ((Ae false 406 ⟨(p:Int), -1⟩).e),i6 ((Ae false 406 ⟨(p:Int), -1⟩).Ag.First),i6 ((Ae false 406 ⟨(p:Int), -1⟩).Ag.Second),i6 ((Ae (win y8.BM 0 16) 407 ⟨(p:Int), -1⟩).e),i6 ((Ae (win y8.BM 0 16) 407 ⟨(p:Int), -1⟩).Ag.First),i6 ((Ae (win y8.BM 0 16) 407 ⟨(p:Int), -1⟩).Ag.Second),i6 ((Ae (win (y8.Ai.xs.length:Int) 1 8) 408 ⟨(p:Int), -1⟩).e),i6 ((Ae (win (y8.Ai.xs.length:Int) 1 8) 408 ⟨(p:Int), -1⟩).Ag.First),i6 ((Ae (win (y8.Ai.xs.length:Int) 1 8) 408 ⟨(p:Int), -1⟩).Ag.Second)] 111)]⟩ _ _ _ _ _ _ _
     refine Bv 36 ?_
     refine FM 91 #[.slice (some ⟨b136,0,none⟩) 4 4] (some 50) (.agg (Am.arr (Ba [(Ae (AC c p) 405 ⟨(p:Int), -1⟩),(Ae false 406 ⟨(p:Int), -1⟩),(Ae (win y8.BM 0 16) 407 ⟨(p:Int), -1⟩),(Ae (win (y8.Ai.xs.length:Int) 1 8) 408 ⟨(p:Int), -1⟩)]))) [1,2,4,5,6,50] [(1,Ac p),(2,pt z),(AA z),(AB z),(6,pt b135),(OO c p y8)] [0,1,2,3] (fun w139 hw139=>Dp w139 (hL.ext (hw139.ext rfl)) ⟨some ⟨b136,0,none⟩,4,[(Ae (AC c p) 405 ⟨(p:Int), -1⟩),(Ae false 406 ⟨(p:Int), -1⟩),(Ae (win y8.BM 0 16) 407 ⟨(p:Int), -1⟩),(Ae (win (y8.Ai.xs.length:Int) 1 8) 408 ⟨(p:Int), -1⟩)]⟩ (Eb hw139 (i:=5) [(Ae (AC c p) 405 ⟨(p:Int), -1⟩),(Ae false 406 ⟨(p:Int), -1⟩),(Ae (win y8.BM 0 16) 407 ⟨(p:Int), -1⟩),(Ae (win (y8.Ai.xs.length:Int) 1 8) 408 ⟨(p:Int), -1⟩)]) (show 4≤1000 by decide)) (fun n140 hn141 => ?_)
     replace hn141:n134≤n140:=hn141
     refine Dt [1,2,4,5,6,50] [(1,Ac p),(2,pt z),(AA z),(AB z),(6,pt b135),(OO c p y8)] ?_
     exact hv132 ⟨(n140,b135,b136),by first | omega | (dsimp only;omega)⟩
    refine Io [35,37] ?_
    refine List.forall_mem_cons.2 ⟨?_,List.forall_mem_cons.2 ⟨?_,fun _ h=>absurd h List.not_mem_nil⟩⟩
    ·refine BC o0 [1,2,4,5,49] [] [(1,Ac p),(2,pt z),(AA z),(AB z),(49,.slice (some ⟨n120,0,none⟩) 4 4)] ⟨w,n120+1,[(Ak w),(AQ c z),(AX z),(AV y8 z),(Uh c p y8 n120)]⟩ [0,1,2,3] Af (.inr rfl) ?_
     refine Io [36,37] ?_
     refine List.forall_mem_cons.2 ⟨?_,List.forall_mem_cons.2 ⟨?_,fun _ h=>absurd h List.not_mem_nil⟩⟩
     ·refine FM 91 #[.slice (some ⟨n120,0,none⟩) 4 4] (some 50) (.agg (Am.arr (Ba [(Ae (AC c p) 405 ⟨(p:Int), -1⟩),(Ae false 406 ⟨(p:Int), -1⟩),(Ae (win y8.BM 0 16) 407 ⟨(p:Int), -1⟩),(Ae (win (y8.Ai.xs.length:Int) 1 8) 408 ⟨(p:Int), -1⟩)]))) [1,2,4,5,50] [(1,Ac p),(2,pt z),(AA z),(AB z),(OO c p y8)] [0,1,2,3] (fun w142 hw142=>Dp w142 (hL.ext (hw142.ext rfl)) ⟨some ⟨n120,0,none⟩,4,[(Ae (AC c p) 405 ⟨(p:Int), -1⟩),(Ae false 406 ⟨(p:Int), -1⟩),(Ae (win y8.BM 0 16) 407 ⟨(p:Int), -1⟩),(Ae (win (y8.Ai.xs.length:Int) 1 8) 408 ⟨(p:Int), -1⟩)]⟩ (Eb hw142 (i:=4) [(Ae (AC c p) 405 ⟨(p:Int), -1⟩),(Ae false 406 ⟨(p:Int), -1⟩),(Ae (win y8.BM 0 16) 407 ⟨(p:Int), -1⟩),(Ae (win (y8.Ai.xs.length:Int) 1 8) 408 ⟨(p:Int), -1⟩)]) (show 4≤1000 by decide)) (fun n143 hn144 => ?_)
      replace hn144:n120+1≤n143:=hn144
      refine Bv 37 ?_
      refine BC o0 [1,2,4,5,50,6] [] [(1,Ac p),(2,pt z),(AA z),(AB z),(OO c p y8),(6,pt n143)] ⟨w,n143+1,[(Ak w),(AQ c z),(AX z),(AV y8 z),(Uh c p y8 n120),(bk n143 #[i6 0,i6 0,i6 0] 111)]⟩ [0,1,2,3] Af (.inr rfl) ?_
      refine Kq [0,1,2,3,5,4] [(Ak w),(AQ c z),(AX z),(AV y8 z),(bk n143 #[i6 0,i6 0,i6 0] 111),(Uh c p y8 n120)] rfl rfl ?_
      refine Dt [1,2,4,5,6,50] [(1,Ac p),(2,pt z),(AA z),(AB z),(6,pt n143),(OO c p y8)] ?_
      exact hv132 ⟨(n143+1,n143,n120),by first | omega | (dsimp only;omega)⟩
     refine BC o0 [1,2,4,5,49,6] [] [(1,Ac p),(2,pt z),(AA z),(AB z),(49,.slice (some ⟨n120,0,none⟩) 4 4),(6,pt (n120+1))] ⟨w,n120+2,[(Ak w),(AQ c z),(AX z),(AV y8 z),(Uh c p y8 n120),(bk (n120+1) #[i6 0,i6 0,i6 0] 111)]⟩ [0,1,2,3] Af (.inr rfl) ?_
     refine Kq [0,1,2,3,5,4] [(Ak w),(AQ c z),(AX z),(AV y8 z),(bk (n120+1) #[i6 0,i6 0,i6 0] 111),(Uh c p y8 n120)] rfl rfl ?_
     refine Dt [1,2,4,5,6,49] [(1,Ac p),(2,pt z),(AA z),(AB z),(6,pt (n120+1)),(49,.slice (some ⟨n120,0,none⟩) 4 4)] ?_
     exact hv137 ⟨(n120+2,n120+1,n120),by first | omega | (dsimp only;omega)⟩
    refine BC o0 [1,2,4,5,19,30,41,48,6] [] [(1,Ac p),(2,pt z),(AA z),(AB z),(Ju c p),(Pg p),(Nz p y8),(Jv p y8),(6,pt n120)] ⟨w,n120+1,[(Ak w),(AQ c z),(AX z),(AV y8 z),(bk n120 #[i6 0,i6 0,i6 0] 111)]⟩ [0,1,2,3] Af (.inr rfl) ?_
    refine Dt [6,1,2,4,5,19,30,41,48] [(6,pt n120),(1,Ac p),(2,pt z),(AA z),(AB z),(Ju c p),(Pg p),(Nz p y8),(Jv p y8)] ?_
    exact hv122 ⟨(n120+1,n120),by first | omega | (dsimp only;omega)⟩
   rintro⟨⟨n104,b105,b106⟩,hJ145⟩
   simp only at hJ145
   show E _ _ [(1,Ac p),(2,pt z),(AA z),(AB z),(6,pt b106)] _ ⟨w,n104,[(Ak w),(AQ c z),(AX z),(AV y8 z),(bk b105 #[i6 ((Ae (AC c p) 405 ⟨(p:Int), -1⟩).e),i6 ((Ae (AC c p) 405 ⟨(p:Int), -1⟩).Ag.First),i6 ((Ae (AC c p) 405 ⟨(p:Int), -1⟩).Ag.Second),i6 ((Ae false 406 ⟨(p:Int), -1⟩).e),i6 ((Ae false 406 ⟨(p:Int), -1⟩).Ag.First),i6 ((Ae false 406 ⟨(p:Int), -1⟩).Ag.Second),i6 ((Ae (win y8.BM 0 16) 407 ⟨(p:Int), -1⟩).e),i6 ((Ae (win y8.BM 0 16) 407 ⟨(p:Int), -1⟩).Ag.First),i6 ((Ae (win y8.BM 0 16) 407 ⟨(p:Int), -1⟩).Ag.Second),i6 ((Ae (win (y8.Ai.xs.length:Int) 1 8) 408 ⟨(p:Int), -1⟩).e),i6 ((Ae (win (y8.Ai.xs.length:Int) 1 8) 408 ⟨(p:Int), -1⟩).Ag.First),i6 ((Ae (win (y8.Ai.xs.length:Int) 1 8) 408 ⟨(p:Int), -1⟩).Ag.Second)] 111),(Vj c p y8 b106)]⟩ _ _ _
   refine BX [0,1,2,3,5] [(Ak w),(AQ c z),(AX z),(AV y8 z),(Vj c p y8 b106)] rfl rfl ?_
   have eA:Ba (Jj c p)=(Ba [(Ae (AC c p) 405 ⟨(p:Int), -1⟩),(Ae false 406 ⟨(p:Int), -1⟩),(Ae (win y8.BM 0 16) 407 ⟨(p:Int), -1⟩),(Ae (win (y8.Ai.xs.length:Int) 1 8) 408 ⟨(p:Int), -1⟩)]):=by have e0:Gz c p=y8:=hy8.symm;unfold Jj;simp only[e0];simp[h11,h102]
   refine BR [1,2,4,5,6] [(1,Ac p),(2,pt z),(AA z),(AB z),(6,pt b106)] ?_
   refine Cf (fun a w' hs=>⟨n104,b106,by omega,(by(try dsimp only[Vj,AX,AV,AQ,Jv,Nz,Ju,Pg,OZ,AA,AB,CW]at hs ⊢);rw[eA];exact hs)⟩)
  have hd146:=Ko h102
  refine Eo 38 [0,1,2,3] [(Ak w),(AQ c z),(AX z),(AV y8 z)] rfl rfl ?_
  refine D6 [(0,(an 7 1)),(1,o0),(3,o0),(6,o0),(7,(a1 3)),(14,o0),(17,o0),(18,(a1 3)),(25,o0),(28,o0),(29,(a1 3)),(30,o0),(32,o0)] [1,2,4,5,14,15,17,21,28,32,39,44,46] [Qb z,Qb z,Qb z,Qb z,Qb z,Qb z,Qb z,Qb (z+2),Qb (z+2),Qb (z+2)] [true,true,false,true,false,false,true,true,false,false,false,false,false,false,true,false,false,true,true,false,false,false,false,false,false,true,false,false,true,true,true,false,true,false,false,false,false,false,false] [(1,Ac p),(2,pt z),(AA z),(AB z),(14,.agg (Aj.arr c)),(15,Ac p),(17,Ac p),(21,i6 y8.FX),(28,Ac p),(32,i6 y8.FU),(39,Ac p),(OZ y8),(46,Ac p)] ⟨rfl,rfl,rfl,rfl,rfl,rfl,rfl,rfl,rfl,rfl,Af⟩ ?_
  refine Oq (fun x:{p:Nat×Nat×Nat // z+3≤p.1∧z+3≤p.2.1∧z+3≤p.2.2}=>([(1,Ac p),(2,pt z),(AA z),(AB z),(6,pt x.1.2.2)],⟨w,x.1.1,[(Ak w),(AQ c z),(AX z),(AV y8 z),(.blk x.1.2.1 (.cells #[i6 ((Ae (AC c p) 405 ⟨(p:Int), -1⟩).e),i6 ((Ae (AC c p) 405 ⟨(p:Int), -1⟩).Ag.First),i6 ((Ae (AC c p) 405 ⟨(p:Int), -1⟩).Ag.Second),i6 ((Ae false 406 ⟨(p:Int), -1⟩).e),i6 ((Ae false 406 ⟨(p:Int), -1⟩).Ag.First),i6 ((Ae false 406 ⟨(p:Int), -1⟩).Ag.Second),i6 ((Ae false 407 ⟨(p:Int), -1⟩).e),i6 ((Ae false 407 ⟨(p:Int), -1⟩).Ag.First),i6 ((Ae false 407 ⟨(p:Int), -1⟩).Ag.Second),i6 ((Ae (win (y8.Ai.xs.length:Int) 1 8) 408 ⟨(p:Int), -1⟩).e),i6 ((Ae (win (y8.Ai.xs.length:Int) 1 8) 408 ⟨(p:Int), -1⟩).Ag.First),i6 ((Ae (win (y8.Ai.xs.length:Int) 1 8) 408 ⟨(p:Int), -1⟩).Ag.Second)] 111 (0,0)) true),(.blk x.1.2.2 (.cells (Am.arr (Ba [(Ae (AC c p) 405 ⟨(p:Int), -1⟩),(Ae false 406 ⟨(p:Int), -1⟩),(Ae false 407 ⟨(p:Int), -1⟩),(Ae (win (y8.Ai.xs.length:Int) 1 8) 408 ⟨(p:Int), -1⟩)])) 111 (0,0)) true)]⟩)) (fun hK => ?_) ?_
  ·refine NR 37 6 [.cl 2 (.bool (AC c p)),.cl 4 (.agg #[(Ac p),i6 (-1)]),.cl 5 (.agg (Am.arr (Ae (AC c p) 405 ⟨(p:Int), -1⟩))),.cl 8 (.bool (win y8.FX 0 2)),.tk 9 (ov (.bool false)),.tk 10 o0,.tk 11 o0,.tk 12 o0,.tk 13 o0,.cl 15 (.agg #[(Ac p),i6 (-1)]),.cl 16 (.agg (Am.arr (Ae false 406 ⟨(p:Int), -1⟩))),.cl 19 (.bool (win y8.FU 0 16)),.tk 20 (ov (.bool false)),.tk 21 o0,.tk 22 o0,.tk 23 o0,.tk 24 o0,.cl 26 (.agg #[(Ac p),i6 (-1)]),.cl 27 (.agg (Am.arr (Ae false 407 ⟨(p:Int), -1⟩))),.cl 31 (.bool (win (y8.Ai.xs.length:Int) 1 8)),.cl 33 (.agg #[(Ac p),i6 (-1)]),.cl 34 (.agg (Am.arr (Ae (win (y8.Ai.xs.length:Int) 1 8) 408 ⟨(p:Int), -1⟩)))] [1,2,4,5,19,30,41,48] [(92,#[.agg (Aj.arr c),Ac p],.bool (AC c p)),(93,#[(Ac p)],.agg #[(Ac p),i6 (-1)]),(62,#[.bool (AC c p),i6 405,.agg #[(Ac p),i6 (-1)]],.agg (Am.arr (Ae (AC c p) 405 ⟨(p:Int), -1⟩))),(63,#[i6 y8.FX,i6 0,i6 2],.bool (win y8.FX 0 2)),(93,#[(Ac p)],.agg #[(Ac p),i6 (-1)]),(62,#[.bool false,i6 406,.agg #[(Ac p),i6 (-1)]],.agg (Am.arr (Ae false 406 ⟨(p:Int), -1⟩))),(63,#[i6 y8.FU,i6 0,i6 16],.bool (win y8.FU 0 16)),(93,#[(Ac p)],.agg #[(Ac p),i6 (-1)]),(62,#[.bool false,i6 407,.agg #[(Ac p),i6 (-1)]],.agg (Am.arr (Ae false 407 ⟨(p:Int), -1⟩))),(63,#[(Ac y8.Ai.xs.length),i6 1,i6 8],.bool (win (y8.Ai.xs.length:Int) 1 8)),(93,#[(Ac p)],.agg #[(Ac p),i6 (-1)]),(62,#[.bool (win (y8.Ai.xs.length:Int) 1 8),i6 408,.agg #[(Ac p),i6 (-1)]],.agg (Am.arr (Ae (win (y8.Ai.xs.length:Int) 1 8) 408 ⟨(p:Int), -1⟩)))] (DC 35 4) [Value.bool (win y8.FX 0 2)=Value.bool false,Value.bool (win y8.FU 0 16)=Value.bool false] [(1,Ac p),(2,pt z),(AA z),(AB z),(Ju c p),(Pg p),(OG p),(Jv p y8)] (.cells #[i6 0,i6 0,i6 0] 111 (0,0)) [0,1,2,3] ⟨(congrArg Value.bool (Bool.eq_false_iff.2 h11)),(congrArg Value.bool (Bool.eq_false_iff.2 h102)),Af⟩ ⟨fun w150 hw150=>Qg w150 c (hc.ext (hw150.ext rfl) (fun _ h=>h)) p hp,fun w151 hw151=>Dh w151 (p:Int),fun w152 hw152=>AY w152 (hL.ext (hw152.ext rfl)) (AC c p) 405 (p:Int) (-1),fun w153 hw153=>BL w153 y8.FX 0 2,fun w154 hw154=>Dh w154 (p:Int),fun w155 hw155=>AY w155 (hL.ext (hw155.ext rfl)) false 406 (p:Int) (-1),fun w156 hw156=>BL w156 y8.FU 0 16,fun w157 hw157=>Dh w157 (p:Int),fun w158 hw158=>AY w158 (hL.ext (hw158.ext rfl)) false 407 (p:Int) (-1),fun w159 hw159=>BL w159 (y8.Ai.xs.length:Int) 1 8,fun w160 hw160=>Dh w160 (p:Int),fun w161 hw161=>AY w161 (hL.ext (hw161.ext rfl)) (win (y8.Ai.xs.length:Int) 1 8) 408 (p:Int) (-1),Af⟩ ?_ (fun hv164 n162 hn163 => ?_)
   ·rintro⟨⟨n165,b166⟩,hb167⟩
    simp only at hb167
    refine Bv 35 ?_
    refine BC o0 [6,1,2,4,5,49] [] [(6,pt b166),(1,Ac p),(2,pt z),(AA z),(AB z),(49,.slice (some ⟨n165,0,none⟩) 4 4)] ⟨w,n165+1,[(Ak w),(AQ c z),(AX z),(AV y8 z),(bk b166 #[i6 0,i6 0,i6 0] 111),(Wj c p y8 n165)]⟩ [0,1,2,3] Af (.inr rfl) ?_
    refine Bv 36 ?_
    refine FM 91 #[.slice (some ⟨n165,0,none⟩) 4 4] (some 50) (.agg (Am.arr (Ba [(Ae (AC c p) 405 ⟨(p:Int), -1⟩),(Ae false 406 ⟨(p:Int), -1⟩),(Ae false 407 ⟨(p:Int), -1⟩),(Ae (win (y8.Ai.xs.length:Int) 1 8) 408 ⟨(p:Int), -1⟩)]))) [6,1,2,4,5,50] [(6,pt b166),(1,Ac p),(2,pt z),(AA z),(AB z),(O7 c p y8)] [0,1,2,3] (fun w168 hw168=>Dp w168 (hL.ext (hw168.ext rfl)) ⟨some ⟨n165,0,none⟩,4,[(Ae (AC c p) 405 ⟨(p:Int), -1⟩),(Ae false 406 ⟨(p:Int), -1⟩),(Ae false 407 ⟨(p:Int), -1⟩),(Ae (win (y8.Ai.xs.length:Int) 1 8) 408 ⟨(p:Int), -1⟩)]⟩ (Eb hw168 (i:=5) [(Ae (AC c p) 405 ⟨(p:Int), -1⟩),(Ae false 406 ⟨(p:Int), -1⟩),(Ae false 407 ⟨(p:Int), -1⟩),(Ae (win (y8.Ai.xs.length:Int) 1 8) 408 ⟨(p:Int), -1⟩)]) (show 4≤1000 by decide)) (fun n169 hn170 => ?_)
    replace hn170:n165+1≤n169:=hn170
    refine Bv 38 ?_
    refine BC (an 3 4) [6,1,2,4,5] [Qb b166,Qb b166,Qb b166] [(6,pt b166),(1,Ac p),(2,pt z),(AA z),(AB z)] ⟨w,n169,[(Ak w),(AQ c z),(AX z),(AV y8 z),(X0 c p y8 b166),(Wj c p y8 n165)]⟩ [] ⟨rfl,rfl,rfl,Af⟩ (.inl rfl) ?_
    refine DV 39 [0,1,2,3,4,5] [(Ak w),(AQ c z),(AX z),(AV y8 z),(X0 c p y8 b166),(Wj c p y8 n165)] rfl rfl ?_
    refine Dl ?_
    refine BR [1,2,4,5,6] [(1,Ac p),(2,pt z),(AA z),(AB z),(6,pt b166)] ?_
    refine BX [0,1,2,3,5,4] [(Ak w),(AQ c z),(AX z),(AV y8 z),(Wj c p y8 n165),(X0 c p y8 b166)] rfl rfl ?_
    exact hK ⟨(n169,n165,b166),by first | omega | (dsimp only;omega)⟩
   replace hn163:z+3≤n162:=hn163
   refine LM (fun x:{p:Nat×Nat×Nat // n162≤p.1∧n162≤p.2.1∧n162≤p.2.2}=>[(1,Ac p),(2,pt z),(AA z),(AB z),(6,pt x.1.2.1),(O7 c p y8)]) (fun x=>⟨w,x.1.1,[(Ak w),(AQ c z),(AX z),(AV y8 z),(.blk x.1.2.1 (.cells #[i6 0,i6 0,i6 0] 111 (0,0)) true),(.blk x.1.2.2 (.cells #[i6 ((Ae (AC c p) 405 ⟨(p:Int), -1⟩).e),i6 ((Ae (AC c p) 405 ⟨(p:Int), -1⟩).Ag.First),i6 ((Ae (AC c p) 405 ⟨(p:Int), -1⟩).Ag.Second),i6 ((Ae false 406 ⟨(p:Int), -1⟩).e),i6 ((Ae false 406 ⟨(p:Int), -1⟩).Ag.First),i6 ((Ae false 406 ⟨(p:Int), -1⟩).Ag.Second),i6 ((Ae false 407 ⟨(p:Int), -1⟩).e),i6 ((Ae false 407 ⟨(p:Int), -1⟩).Ag.First),i6 ((Ae false 407 ⟨(p:Int), -1⟩).Ag.Second),i6 ((Ae (win (y8.Ai.xs.length:Int) 1 8) 408 ⟨(p:Int), -1⟩).e),i6 ((Ae (win (y8.Ai.xs.length:Int) 1 8) 408 ⟨(p:Int), -1⟩).Ag.First),i6 ((Ae (win (y8.Ai.xs.length:Int) 1 8) 408 ⟨(p:Int), -1⟩).Ag.Second)] 111 (0,0)) true)]⟩) 1 (DC 38 1) ?_ (fun hv174 => ?_)
   ·rintro⟨⟨n171,b172,b173⟩,hb175⟩
    simp only at hb175
    show Wg _ _ [(1,Ac p),(2,pt z),(AA z),(AB z),(6,pt b172),(O7 c p y8)] _ ⟨w,n171,[(Ak w),(AQ c z),(AX z),(AV y8 z),(bk b172 #[i6 0,i6 0,i6 0] 111),(Vy c p y8 b173)]⟩ _ _ _ _ _ _ _
    refine Bv 38 ?_
    refine BC (an 3 4) [1,2,4,5,6] [Qb b172,Qb b172,Qb b172] [(1,Ac p),(2,pt z),(AA z),(AB z),(6,pt b172)] ⟨w,n171,[(Ak w),(AQ c z),(AX z),(AV y8 z),(XH c p y8 b172),(Vy c p y8 b173)]⟩ [] ⟨rfl,rfl,rfl,Af⟩ (.inl rfl) ?_
    refine DV 39 [0,1,2,3,4,5] [(Ak w),(AQ c z),(AX z),(AV y8 z),(XH c p y8 b172),(Vy c p y8 b173)] rfl rfl ?_
    refine Dl ?_
    refine BR [1,2,4,5,6] [(1,Ac p),(2,pt z),(AA z),(AB z),(6,pt b172)] ?_
    refine BX [0,1,2,3,5,4] [(Ak w),(AQ c z),(AX z),(AV y8 z),(Vy c p y8 b173),(XH c p y8 b172)] rfl rfl ?_
    exact hK ⟨(n171,b173,b172),by first | omega | (dsimp only;omega)⟩
   refine LM (fun x:{p:Nat×Nat×Nat // n162≤p.1∧n162≤p.2.1∧n162≤p.2.2}=>[(1,Ac p),(2,pt z),(AA z),(AB z),(6,pt x.1.2.1),(49,.slice (some ⟨x.1.2.2,0,none⟩) 4 4)]) (fun x=>⟨w,x.1.1,[(Ak w),(AQ c z),(AX z),(AV y8 z),(.blk x.1.2.1 (.cells #[i6 0,i6 0,i6 0] 111 (0,0)) true),(.blk x.1.2.2 (.cells #[i6 ((Ae (AC c p) 405 ⟨(p:Int), -1⟩).e),i6 ((Ae (AC c p) 405 ⟨(p:Int), -1⟩).Ag.First),i6 ((Ae (AC c p) 405 ⟨(p:Int), -1⟩).Ag.Second),i6 ((Ae false 406 ⟨(p:Int), -1⟩).e),i6 ((Ae false 406 ⟨(p:Int), -1⟩).Ag.First),i6 ((Ae false 406 ⟨(p:Int), -1⟩).Ag.Second),i6 ((Ae false 407 ⟨(p:Int), -1⟩).e),i6 ((Ae false 407 ⟨(p:Int), -1⟩).Ag.First),i6 ((Ae false 407 ⟨(p:Int), -1⟩).Ag.Second),i6 ((Ae (win (y8.Ai.xs.length:Int) 1 8) 408 ⟨(p:Int), -1⟩).e),i6 ((Ae (win (y8.Ai.xs.length:Int) 1 8) 408 ⟨(p:Int), -1⟩).Ag.First),i6 ((Ae (win (y8.Ai.xs.length:Int) 1 8) 408 ⟨(p:Int), -1⟩).Ag.Second)] 111 (0,0)) true)]⟩) 2 [true,true,true,true,true,true,true,true,true,true,true,true,true,true,true,true,true,true,true,true,true,true,true,true,true,true,true,true,true,true,true,true,true,true,true,true,false,true,false] ?_ (fun hv179 => ?_)
   ·rintro⟨⟨n176,b177,b178⟩,hb180⟩
    simp only at hb180
    show Wg _ _ [(1,Ac p),(2,pt z),(AA z),(AB z),(6,pt b177),(49,.slice (some ⟨b178,0,none⟩) 4 4)] _ ⟨w,n176,[(Ak w),(AQ c z),(AX z),(AV y8 z),(bk b177 #[i6 0,i6 0,i6 0] 111),(bk b178 #[i6 ((Ae (AC c p) 405 ⟨(p:Int), -1⟩).e),i6 ((Ae (AC c p) 405 ⟨(p:Int), -1⟩).Ag.First),i6 ((Ae (AC c p) 405 ⟨(p:Int), -1⟩).Ag.Second),i6 ((Ae false 406 ⟨(p:Int), -1⟩).e),i6 ((Ae false 406 ⟨(p:Int), -1⟩).Ag.First),i6 ((Ae false 406 ⟨(p:Int), -1⟩).Ag.Second),i6 ((Ae false 407 ⟨(p:Int), -1⟩).e),i6 ((Ae false 407 ⟨(p:Int), -1⟩).Ag.First),i6 ((Ae false 407 ⟨(p:Int), -1⟩).Ag.Second),i6 ((Ae (win (y8.Ai.xs.length:Int) 1 8) 408 ⟨(p:Int), -1⟩).e),i6 ((Ae (win (y8.Ai.xs.length:Int) 1 8) 408 ⟨(p:Int), -1⟩).Ag.First),i6 ((Ae (win (y8.Ai.xs.length:Int) 1 8) 408 ⟨(p:Int), -1⟩).Ag.Second)] 111)]⟩ _ _ _ _ _ _ _
    refine Bv 36 ?_
    refine FM 91 #[.slice (some ⟨b178,0,none⟩) 4 4] (some 50) (.agg (Am.arr (Ba [(Ae (AC c p) 405 ⟨(p:Int), -1⟩),(Ae false 406 ⟨(p:Int), -1⟩),(Ae false 407 ⟨(p:Int), -1⟩),(Ae (win (y8.Ai.xs.length:Int) 1 8) 408 ⟨(p:Int), -1⟩)]))) [1,2,4,5,6,50] [(1,Ac p),(2,pt z),(AA z),(AB z),(6,pt b177),(O7 c p y8)] [0,1,2,3] (fun w181 hw181=>Dp w181 (hL.ext (hw181.ext rfl)) ⟨some ⟨b178,0,none⟩,4,[(Ae (AC c p) 405 ⟨(p:Int), -1⟩),(Ae false 406 ⟨(p:Int), -1⟩),(Ae false 407 ⟨(p:Int), -1⟩),(Ae (win (y8.Ai.xs.length:Int) 1 8) 408 ⟨(p:Int), -1⟩)]⟩ (Eb hw181 (i:=5) [(Ae (AC c p) 405 ⟨(p:Int), -1⟩),(Ae false 406 ⟨(p:Int), -1⟩),(Ae false 407 ⟨(p:Int), -1⟩),(Ae (win (y8.Ai.xs.length:Int) 1 8) 408 ⟨(p:Int), -1⟩)]) (show 4≤1000 by decide)) (fun n182 hn183 => ?_)
    replace hn183:n176≤n182:=hn183
    refine Dt [1,2,4,5,6,50] [(1,Ac p),(2,pt z),(AA z),(AB z),(6,pt b177),(O7 c p y8)] ?_
    exact hv174 ⟨(n182,b177,b178),by first | omega | (dsimp only;omega)⟩
   refine Io [35,37] ?_
   refine List.forall_mem_cons.2 ⟨?_,List.forall_mem_cons.2 ⟨?_,fun _ h=>absurd h List.not_mem_nil⟩⟩
   ·refine BC o0 [1,2,4,5,49] [] [(1,Ac p),(2,pt z),(AA z),(AB z),(49,.slice (some ⟨n162,0,none⟩) 4 4)] ⟨w,n162+1,[(Ak w),(AQ c z),(AX z),(AV y8 z),(TA c p y8 n162)]⟩ [0,1,2,3] Af (.inr rfl) ?_
    refine Io [36,37] ?_
    refine List.forall_mem_cons.2 ⟨?_,List.forall_mem_cons.2 ⟨?_,fun _ h=>absurd h List.not_mem_nil⟩⟩
    ·refine FM 91 #[.slice (some ⟨n162,0,none⟩) 4 4] (some 50) (.agg (Am.arr (Ba [(Ae (AC c p) 405 ⟨(p:Int), -1⟩),(Ae false 406 ⟨(p:Int), -1⟩),(Ae false 407 ⟨(p:Int), -1⟩),(Ae (win (y8.Ai.xs.length:Int) 1 8) 408 ⟨(p:Int), -1⟩)]))) [1,2,4,5,50] [(1,Ac p),(2,pt z),(AA z),(AB z),(O7 c p y8)] [0,1,2,3] (fun w184 hw184=>Dp w184 (hL.ext (hw184.ext rfl)) ⟨some ⟨n162,0,none⟩,4,[(Ae (AC c p) 405 ⟨(p:Int), -1⟩),(Ae false 406 ⟨(p:Int), -1⟩),(Ae false 407 ⟨(p:Int), -1⟩),(Ae (win (y8.Ai.xs.length:Int) 1 8) 408 ⟨(p:Int), -1⟩)]⟩ (Eb hw184 (i:=4) [(Ae (AC c p) 405 ⟨(p:Int), -1⟩),(Ae false 406 ⟨(p:Int), -1⟩),(Ae false 407 ⟨(p:Int), -1⟩),(Ae (win (y8.Ai.xs.length:Int) 1 8) 408 ⟨(p:Int), -1⟩)]) (show 4≤1000 by decide)) (fun n185 hn186 => ?_)
     replace hn186:n162+1≤n185:=hn186
     refine Bv 37 ?_
     refine BC o0 [1,2,4,5,50,6] [] [(1,Ac p),(2,pt z),(AA z),(AB z),(O7 c p y8),(6,pt n185)] ⟨w,n185+1,[(Ak w),(AQ c z),(AX z),(AV y8 z),(TA c p y8 n162),(bk n185 #[i6 0,i6 0,i6 0] 111)]⟩ [0,1,2,3] Af (.inr rfl) ?_
     refine Kq [0,1,2,3,5,4] [(Ak w),(AQ c z),(AX z),(AV y8 z),(bk n185 #[i6 0,i6 0,i6 0] 111),(TA c p y8 n162)] rfl rfl ?_
     refine Dt [1,2,4,5,6,50] [(1,Ac p),(2,pt z),(AA z),(AB z),(6,pt n185),(O7 c p y8)] ?_
     exact hv174 ⟨(n185+1,n185,n162),by first | omega | (dsimp only;omega)⟩
    refine BC o0 [1,2,4,5,49,6] [] [(1,Ac p),(2,pt z),(AA z),(AB z),(49,.slice (some ⟨n162,0,none⟩) 4 4),(6,pt (n162+1))] ⟨w,n162+2,[(Ak w),(AQ c z),(AX z),(AV y8 z),(TA c p y8 n162),(bk (n162+1) #[i6 0,i6 0,i6 0] 111)]⟩ [0,1,2,3] Af (.inr rfl) ?_
    refine Kq [0,1,2,3,5,4] [(Ak w),(AQ c z),(AX z),(AV y8 z),(bk (n162+1) #[i6 0,i6 0,i6 0] 111),(TA c p y8 n162)] rfl rfl ?_
    refine Dt [1,2,4,5,6,49] [(1,Ac p),(2,pt z),(AA z),(AB z),(6,pt (n162+1)),(49,.slice (some ⟨n162,0,none⟩) 4 4)] ?_
    exact hv179 ⟨(n162+2,n162+1,n162),by first | omega | (dsimp only;omega)⟩
   refine BC o0 [1,2,4,5,19,30,41,48,6] [] [(1,Ac p),(2,pt z),(AA z),(AB z),(Ju c p),(Pg p),(OG p),(Jv p y8),(6,pt n162)] ⟨w,n162+1,[(Ak w),(AQ c z),(AX z),(AV y8 z),(bk n162 #[i6 0,i6 0,i6 0] 111)]⟩ [0,1,2,3] Af (.inr rfl) ?_
   refine Dt [6,1,2,4,5,19,30,41,48] [(6,pt n162),(1,Ac p),(2,pt z),(AA z),(AB z),(Ju c p),(Pg p),(OG p),(Jv p y8)] ?_
   exact hv164 ⟨(n162+1,n162),by first | omega | (dsimp only;omega)⟩
  rintro⟨⟨n147,b148,b149⟩,hJ187⟩
  simp only at hJ187
  show E _ _ [(1,Ac p),(2,pt z),(AA z),(AB z),(6,pt b149)] _ ⟨w,n147,[(Ak w),(AQ c z),(AX z),(AV y8 z),(bk b148 #[i6 ((Ae (AC c p) 405 ⟨(p:Int), -1⟩).e),i6 ((Ae (AC c p) 405 ⟨(p:Int), -1⟩).Ag.First),i6 ((Ae (AC c p) 405 ⟨(p:Int), -1⟩).Ag.Second),i6 ((Ae false 406 ⟨(p:Int), -1⟩).e),i6 ((Ae false 406 ⟨(p:Int), -1⟩).Ag.First),i6 ((Ae false 406 ⟨(p:Int), -1⟩).Ag.Second),i6 ((Ae false 407 ⟨(p:Int), -1⟩).e),i6 ((Ae false 407 ⟨(p:Int), -1⟩).Ag.First),i6 ((Ae false 407 ⟨(p:Int), -1⟩).Ag.Second),i6 ((Ae (win (y8.Ai.xs.length:Int) 1 8) 408 ⟨(p:Int), -1⟩).e),i6 ((Ae (win (y8.Ai.xs.length:Int) 1 8) 408 ⟨(p:Int), -1⟩).Ag.First),i6 ((Ae (win (y8.Ai.xs.length:Int) 1 8) 408 ⟨(p:Int), -1⟩).Ag.Second)] 111),(XF c p y8 b149)]⟩ _ _ _
  refine BX [0,1,2,3,5] [(Ak w),(AQ c z),(AX z),(AV y8 z),(XF c p y8 b149)] rfl rfl ?_
  have eA:Ba (Jj c p)=(Ba [(Ae (AC c p) 405 ⟨(p:Int), -1⟩),(Ae false 406 ⟨(p:Int), -1⟩),(Ae false 407 ⟨(p:Int), -1⟩),(Ae (win (y8.Ai.xs.length:Int) 1 8) 408 ⟨(p:Int), -1⟩)]):=by have e0:Gz c p=y8:=hy8.symm;unfold Jj;simp only[e0];simp[h11,h102]
  refine BR [1,2,4,5,6] [(1,Ac p),(2,pt z),(AA z),(AB z),(6,pt b149)] ?_
  refine Cf (fun a w' hs=>⟨n147,b149,by omega,(by(try dsimp only[Vj,XF,AX,AV,AQ,Jv,Nz,Ju,OG,Pg,OZ,AA,AB,CW]at hs ⊢);rw[eA];exact hs)⟩)
 rintro a w' ⟨n9,b6,hn10,hs⟩
 refine(?_:G Tryd.prog 118 [(1,Ac p),(2,pt z),(AA z),(AB z),(CW b6)] [] ⟨w,n9,[(Ak w),(AQ c z),(AX z),(AV y8 z),(.blk b6 (.cells (Am.arr (Ba (Jj c p))) 111 (0,0)) true)]⟩ _ _ _) a w' hs
 clear hs a w'
 refine Uc (fun a w'=>∃ (n188:Nat),n9≤n188∧St 118 [(1,Ac p),(2,pt z),(AA z),(AB z),(CW b6)] [] ⟨w,n188,(II c p y8 b6 z w)⟩ a w') ?_ ?_
 ·refine Az 5 0 [] [[o0]] [] [(1,Ac p),(2,pt z),(AA z),(AB z),(CW b6),(7,i6 0)] rfl Af ?_
  refine DY (fun m a w'=>∃ (n191:Nat) (k:Nat),m=y8.Ai.xs.length - k∧n9≤n191∧(k≤y8.Ai.xs.length)∧St 118 [(1,Ac p),(2,pt z),(AA z),(AB z),(CW b6),(7,Ac k)] [] ⟨w,n191,[(Ak w),(AQ c z),(AX z),(AV y8 z),(.blk b6 (.cells (Am.arr (Fq (Ba (Jj c p)) (Gt c p) k)) 111 (0,0)) true)]⟩ a w') (y8.Ai.xs.length - 0) ?_ ?_
  ·intro a w' hs;exact⟨n9,0,rfl,Nat.le_refl _,Nat.zero_le _,(by(try dsimp only[AX,IJ,AV,AQ,AA,AB,CW,II]at hs ⊢);rw[Pz];exact hs)⟩
  rintro m a w' ⟨n191,k,rfl,hn190,hkk,hs⟩
  refine(?_:G Tryd.prog 118 [(1,Ac p),(2,pt z),(AA z),(AB z),(CW b6),(7,Ac k)] [] ⟨w,n191,[(Ak w),(AQ c z),(AX z),(AV y8 z),(.blk b6 (.cells (Am.arr (Fq (Ba (Jj c p)) (Gt c p) k)) 111 (0,0)) true)]⟩ _ _ _) a w' hs
  clear hs a w'
  refine DW <| DW ?_
  by_cases h192:(k:Int)<(y8.Ai.xs.length:Int)
  ·by_cases h193:(((Fq (Ba (Jj c p)) (Gt c p) k).e:Int)==(0:Int)&&((((Fq (Ba (Jj c p)) (Gt c p) k).Ag.First:Int)==(0:Int)&&(((Fq (Ba (Jj c p)) (Gt c p) k).Ag.Second:Int)==(0:Int)&&true))&&true))=true
   ·refine Az 9 3 [1] [[o0,o0,(a1 3),o0,oT,o0,(an 3 4),(oa [.via 0 (i6 0),.via 0 (i6 0),.via 0 (i6 0)]),⟨.seq true,none⟩,o0],[(an 7 1),o0,o0]] [Qb (z+2),BT ((k:Int)<(y8.Ai.xs.length:Int)),Qb b6,Qb b6,Qb b6,Old w 0 0 (i6 0),Old w 0 1 (i6 0),Old w 0 2 (i6 0),(((Fq (Ba (Jj c p)) (Gt c p) k).e:Int)==(0:Int)&&((((Fq (Ba (Jj c p)) (Gt c p) k).Ag.First:Int)==(0:Int)&&(((Fq (Ba (Jj c p)) (Gt c p) k).Ag.Second:Int)==(0:Int)&&true))&&true))=true,Qb z,Qb z,Qb z,Qb z,Qb z,Qb z,Qb z] [(1,Ac p),(2,pt z),(AA z),(AB z),(CW b6),(7,Ac k),(63,.agg (Aj.arr c)),(64,Ac p),(65,Ac k)] rfl ⟨rfl,bt,rfl,rfl,rfl,Aw (hL.2 0 _ rfl),Aw (hL.2 1 _ rfl),Aw (hL.2 2 _ rfl),h193,rfl,rfl,rfl,rfl,rfl,rfl,rfl,Af⟩ ?_
    refine BI 94 #[.agg (Aj.arr c),Ac p,Ac k] (some 66) (.agg (Am.arr (Gt c p k))) (fun w194 hw194=>YL w194 (hL.ext (hw194.ext rfl)) c (hc.ext (hw194.ext rfl) (fun _ h=>h)) p k hp (by rw[←hy8];omega) hFr (bd_all hFr hpf (U1 (F7.1 h193)).2)) (fun n195 (hn196:n191≤n195) => ?_)
    refine Gi 5 0 [] [[(an 3 4)],[o0,(ov (i6 ((k+1:Nat):Int))),o0]] [Qb b6,Qb b6,Qb b6,Wr ((k:Int)+1) (((k+1:Nat):Int))] [(1,Ac p),(2,pt z),(AA z),(AB z),(CW b6),(7,i6 ((k+1:Nat):Int))] ⟨w,n195,[(Ak w),(AQ c z),(AX z),(AV y8 z),(bk b6 (Am.arr (Gt c p k)) 111)]⟩ rfl ⟨rfl,rfl,rfl,CB,Af⟩ ?_
    have eS:=PD (F7.1 h193)
    refine BR [1,2,4,5,6,7] [(1,Ac p),(2,pt z),(AA z),(AB z),(CW b6),(7,i6 ((k+1:Nat):Int))] ?_
    refine Cf (fun a w' hs=>⟨y8.Ai.xs.length - (k+1),by omega,n195,(k+1),rfl,by omega,by omega,(by(try dsimp only[AX,IJ,AV,AQ,AA,AB,CW,II]at hs ⊢);rw[eS];exact hs)⟩)
   refine Az 8 0 [0] [[o0,o0,(a1 3),o0,oT,o0,(an 3 4),(oa [.via 0 (i6 0),.via 0 (i6 0),.via 0 (i6 0)]),⟨.seq false,none⟩,o0]] [Qb (z+2),BT ((k:Int)<(y8.Ai.xs.length:Int)),Qb b6,Qb b6,Qb b6,Old w 0 0 (i6 0),Old w 0 1 (i6 0),Old w 0 2 (i6 0),(((Fq (Ba (Jj c p)) (Gt c p) k).e:Int)==(0:Int)&&((((Fq (Ba (Jj c p)) (Gt c p) k).Ag.First:Int)==(0:Int)&&(((Fq (Ba (Jj c p)) (Gt c p) k).Ag.Second:Int)==(0:Int)&&true))&&true))=false] [(1,Ac p),(2,pt z),(AA z),(AB z),(CW b6),(7,Ac k),(60,.bool false)] rfl ⟨rfl,bt,rfl,rfl,rfl,Aw (hL.2 0 _ rfl),Aw (hL.2 1 _ rfl),Aw (hL.2 2 _ rfl),(Bool.eq_false_iff.2 h193),Af⟩ ?_
   have eB:(J9 c p)=(Fq (Ba (Jj c p)) (Gt c p) k):=MJ (fun e=>h193 (F7.2 e)) (by dsimp only[Gz];rw[←hy8];omega)
   refine BR [1,2,4,5,6] [(1,Ac p),(2,pt z),(AA z),(AB z),(CW b6)] ?_
   refine Cf (fun a w' hs=>⟨n191,by omega,(by(try dsimp only[AX,IJ,AV,AQ,AA,AB,CW,II]at hs ⊢);rw[eB];exact hs)⟩)
  refine Az 8 0 [0] [[o0,o0,(a1 3),o0,oF,o0,o0]] [Qb (z+2),BF ((k:Int)<(y8.Ai.xs.length:Int))] [(1,Ac p),(2,pt z),(AA z),(AB z),(CW b6),(7,Ac k),(60,.bool false)] rfl ⟨rfl,bf,Af⟩ ?_
  have eB:(J9 c p)=(Fq (Ba (Jj c p)) (Gt c p) k):=congrArg (Fq _ _) (by dsimp only[Gz];rw[←hy8];omega)
  refine BR [1,2,4,5,6] [(1,Ac p),(2,pt z),(AA z),(AB z),(CW b6)] ?_
  refine Cf (fun a w' hs=>⟨n191,by omega,(by(try dsimp only[AX,IJ,AV,AQ,AA,AB,CW,II]at hs ⊢);rw[eB];exact hs)⟩)
 rintro a w' ⟨n188,hn189,hs⟩
 refine(?_:G Tryd.prog 118 [(1,Ac p),(2,pt z),(AA z),(AB z),(CW b6)] [] ⟨w,n188,(II c p y8 b6 z w)⟩ _ _ _) a w' hs
 clear hs a w'
 refine DW <| DW ?_
 by_cases h197:(((J9 c p).e:Int)==(0:Int)&&((((J9 c p).Ag.First:Int)==(0:Int)&&(((J9 c p).Ag.Second:Int)==(0:Int)&&true))&&true))=true
 ·have hB0:=F7.1 h197
  refine Az 6 0 [0] [[(an 3 4),(oa [.via 0 (i6 0),.via 0 (i6 0),.via 0 (i6 0)]),⟨.seq true,none⟩]] [Qb b6,Qb b6,Qb b6,Old w 0 0 (i6 0),Old w 0 1 (i6 0),Old w 0 2 (i6 0),(((J9 c p).e:Int)==(0:Int)&&((((J9 c p).Ag.First:Int)==(0:Int)&&(((J9 c p).Ag.Second:Int)==(0:Int)&&true))&&true))=true] [(1,Ac p),(2,pt z),(AA z),(AB z),(CW b6),(69,.bool false)] rfl ⟨rfl,rfl,rfl,Aw (hL.2 0 _ rfl),Aw (hL.2 1 _ rfl),Aw (hL.2 2 _ rfl),h197,Af⟩ ?_
  refine Uc (fun a w'=>∃ (n198:Nat),n188≤n198∧St 118 [(1,Ac p),(2,pt z),(AA z),(AB z),(CW b6)] [] ⟨w,n198,[(Ak w),(AQ c z),(AX z),(AV y8 z),(.blk b6 (.cells (Am.arr (Ba (Jl c p))) 111 (0,0)) true)]⟩ a w') ?_ ?_
  ·by_cases h200:(win y8.Entry 0 4095)=true
   ·have hd201:=H8 h200
    by_cases h202:(8:Int)<(y8.Ar.xs.length:Int)
    ·refine Eo 19 [0,1,2,3,4] (II c p y8 b6 z w) rfl rfl ?_
     refine JZ [.tk 0 o0,.tk 1 (a1 3),.tk 7 o0,.tk 10 o0,.tk 11 (a1 3),.tk 12 o0,.tk 13 oF,.tk 14 o0,.cl 2 (.bool (win y8.Entry 0 4095)),.tk 3 (ov (.bool true)),.tk 4 (an 8 3),.cl 5 (.bool (Gs y8)),.tk 6 o0,.cl 8 (.agg #[(Ac p),i6 (-1)]),.cl 9 (.agg (Am.arr (Ae (Gs y8) 412 ⟨(p:Int), -1⟩))),.cl 15 (.agg #[(Ac p),i6 (-1)]),.cl 16 (.agg (Am.arr (Ae false 413 ⟨(p:Int), -1⟩)))] [1,2,4,5,6,80,87] [(63,#[i6 y8.Entry,i6 0,i6 4095],.bool (win y8.Entry 0 4095)),(95,#[.agg (Aq.arr y8)],.bool (Gs y8)),(93,#[(Ac p)],.agg #[(Ac p),i6 (-1)]),(62,#[.bool (Gs y8),i6 412,.agg #[(Ac p),i6 (-1)]],.agg (Am.arr (Ae (Gs y8) 412 ⟨(p:Int), -1⟩))),(93,#[(Ac p)],.agg #[(Ac p),i6 (-1)]),(62,#[.bool false,i6 413,.agg #[(Ac p),i6 (-1)]],.agg (Am.arr (Ae false 413 ⟨(p:Int), -1⟩)))] (DC 17 3) [Qb (z+2),Qb (z+2),BF ((y8.Ar.xs.length:Int)≤8),Value.bool (win y8.Entry 0 4095)=Value.bool true,Qb (z+2),Qb (z+2),Qb (z+2),Qb (z+2),Qb (z+2),Qb (z+2),Qb (z+2),Qb (z+2)] [(1,Ac p),(2,pt z),(AA z),(AB z),(CW b6),(80,.agg (Am.arr (Ae (Gs y8) 412 ⟨(p:Int), -1⟩))),(87,.agg (Am.arr (Ae false 413 ⟨(p:Int), -1⟩)))] [0,1,2,3,4] ⟨rfl,rfl,bf,(congrArg Value.bool h200),rfl,rfl,rfl,rfl,rfl,rfl,rfl,rfl,Af⟩ ⟨fun w203 hw203=>BL w203 y8.Entry 0 4095,fun w204 hw204=>WL w204 y8 (he7.ext (hw204.ext rfl) (fun _ h=>h)) (by omega) (fun k hk=>by have hz:=Ua hFr.2 hB0 k (by dsimp only[Gz];rw[←hy8];exact hk);dsimp only[Ep]at hz;rw[←hy8]at hz;exact⟨hz.1,hz.2.1⟩),fun w205 hw205=>Dh w205 (p:Int),fun w206 hw206=>AY w206 (hL.ext (hw206.ext rfl)) (Gs y8) 412 (p:Int) (-1),fun w207 hw207=>Dh w207 (p:Int),fun w208 hw208=>AY w208 (hL.ext (hw208.ext rfl)) false 413 (p:Int) (-1),Af⟩ (fun n209 hn210 => ?_)
     replace hn210:n188≤n209:=hn210
     refine Bv 17 ?_
     refine BC o0 [1,2,4,5,6,88] [] [(1,Ac p),(2,pt z),(AA z),(AB z),(CW b6),(88,.slice (some ⟨n209,0,none⟩) 2 2)] ⟨w,n209+1,[(Ak w),(AQ c z),(AX z),(AV y8 z),(IJ c p b6),(Vr p y8 n209)]⟩ [0,1,2,3,4] Af (.inr rfl) ?_
     refine Bv 18 ?_
     refine FM 91 #[.slice (some ⟨n209,0,none⟩) 2 2] (some 89) (.agg (Am.arr (Ba [(Ae (Gs y8) 412 ⟨(p:Int), -1⟩),(Ae false 413 ⟨(p:Int), -1⟩)]))) [1,2,4,5,6,89] [(1,Ac p),(2,pt z),(AA z),(AB z),(CW b6),(89,.agg (Am.arr (Ba [(Ae (Gs y8) 412 ⟨(p:Int), -1⟩),(Ae false 413 ⟨(p:Int), -1⟩)])))] [0,1,2,3,4] (fun w211 hw211=>Dp w211 (hL.ext (hw211.ext rfl)) ⟨some ⟨n209,0,none⟩,2,[(Ae (Gs y8) 412 ⟨(p:Int), -1⟩),(Ae false 413 ⟨(p:Int), -1⟩)]⟩ (Eb hw211 (i:=5) [(Ae (Gs y8) 412 ⟨(p:Int), -1⟩),(Ae false 413 ⟨(p:Int), -1⟩)]) (show 2≤1000 by decide)) (fun n212 hn213 => ?_)
     replace hn213:n209+1≤n212:=hn213
     refine Bv 19 ?_
     refine BC (an 3 4) [1,2,4,5,6] [Qb b6,Qb b6,Qb b6] [(1,Ac p),(2,pt z),(AA z),(AB z),(CW b6)] ⟨w,n212,[(Ak w),(AQ c z),(AX z),(AV y8 z),(UJ p y8 b6),(Vr p y8 n209)]⟩ [] ⟨rfl,rfl,rfl,Af⟩ (.inl rfl) ?_
     refine DV 20 [0,1,2,3,4,5] [(Ak w),(AQ c z),(AX z),(AV y8 z),(UJ p y8 b6),(Vr p y8 n209)] rfl rfl ?_
     refine Dl ?_
     refine BR [1,2,4,5,6] [(1,Ac p),(2,pt z),(AA z),(AB z),(CW b6)] ?_
     refine BX [0,1,2,3,4] [(Ak w),(AQ c z),(AX z),(AV y8 z),(UJ p y8 b6)] rfl rfl ?_
     have eB:(Ba (Jl c p))=(Ba [(Ae (Gs y8) 412 ⟨(p:Int), -1⟩),(Ae false 413 ⟨(p:Int), -1⟩)]):=by have e0:Gz c p=y8:=hy8.symm;unfold Jl;simp only[e0];first | simp[h200,show ¬ y8.Ar.xs.length≤8 by omega] | simp[h200,show y8.Ar.xs.length≤8 by omega]
     refine BR [1,2,4,5,6] [(1,Ac p),(2,pt z),(AA z),(AB z),(CW b6)] ?_
     refine Cf (fun a w' hs=>⟨n212,by omega,(by(try dsimp only[Vr,UJ,AX,IJ,AV,AQ,AA,AB,CW,II]at hs ⊢);rw[eB];exact hs)⟩)
    refine Eo 19 [0,1,2,3,4] (II c p y8 b6 z w) rfl rfl ?_
    refine JZ [.tk 0 o0,.tk 1 (a1 3),.tk 7 o0,.tk 10 o0,.tk 11 (a1 3),.tk 12 o0,.tk 13 oT,.tk 14 o0,.cl 2 (.bool (win y8.Entry 0 4095)),.tk 3 (ov (.bool true)),.tk 4 (an 8 3),.cl 5 (.bool (Gs y8)),.tk 6 o0,.cl 8 (.agg #[(Ac p),i6 (-1)]),.cl 9 (.agg (Am.arr (Ae (Gs y8) 412 ⟨(p:Int), -1⟩))),.cl 15 (.agg #[(Ac p),i6 (-1)]),.cl 16 (.agg (Am.arr (Ae true 413 ⟨(p:Int), -1⟩)))] [1,2,4,5,6,80,87] [(63,#[i6 y8.Entry,i6 0,i6 4095],.bool (win y8.Entry 0 4095)),(95,#[.agg (Aq.arr y8)],.bool (Gs y8)),(93,#[(Ac p)],.agg #[(Ac p),i6 (-1)]),(62,#[.bool (Gs y8),i6 412,.agg #[(Ac p),i6 (-1)]],.agg (Am.arr (Ae (Gs y8) 412 ⟨(p:Int), -1⟩))),(93,#[(Ac p)],.agg #[(Ac p),i6 (-1)]),(62,#[.bool true,i6 413,.agg #[(Ac p),i6 (-1)]],.agg (Am.arr (Ae true 413 ⟨(p:Int), -1⟩)))] (DC 17 3) [Qb (z+2),Qb (z+2),BT ((y8.Ar.xs.length:Int)≤8),Value.bool (win y8.Entry 0 4095)=Value.bool true,Qb (z+2),Qb (z+2),Qb (z+2),Qb (z+2),Qb (z+2),Qb (z+2),Qb (z+2),Qb (z+2)] [(1,Ac p),(2,pt z),(AA z),(AB z),(CW b6),(80,.agg (Am.arr (Ae (Gs y8) 412 ⟨(p:Int), -1⟩))),(87,.agg (Am.arr (Ae true 413 ⟨(p:Int), -1⟩)))] [0,1,2,3,4] ⟨rfl,rfl,bt,(congrArg Value.bool h200),rfl,rfl,rfl,rfl,rfl,rfl,rfl,rfl,Af⟩ ⟨fun w214 hw214=>BL w214 y8.Entry 0 4095,fun w215 hw215=>WL w215 y8 (he7.ext (hw215.ext rfl) (fun _ h=>h)) (by omega) (fun k hk=>by have hz:=Ua hFr.2 hB0 k (by dsimp only[Gz];rw[←hy8];exact hk);dsimp only[Ep]at hz;rw[←hy8]at hz;exact⟨hz.1,hz.2.1⟩),fun w216 hw216=>Dh w216 (p:Int),fun w217 hw217=>AY w217 (hL.ext (hw217.ext rfl)) (Gs y8) 412 (p:Int) (-1),fun w218 hw218=>Dh w218 (p:Int),fun w219 hw219=>AY w219 (hL.ext (hw219.ext rfl)) true 413 (p:Int) (-1),Af⟩ (fun n220 hn221 => ?_)
    replace hn221:n188≤n220:=hn221
    refine Bv 17 ?_
    refine BC o0 [1,2,4,5,6,88] [] [(1,Ac p),(2,pt z),(AA z),(AB z),(CW b6),(88,.slice (some ⟨n220,0,none⟩) 2 2)] ⟨w,n220+1,[(Ak w),(AQ c z),(AX z),(AV y8 z),(IJ c p b6),(V6 p y8 n220)]⟩ [0,1,2,3,4] Af (.inr rfl) ?_
    refine Bv 18 ?_
    refine FM 91 #[.slice (some ⟨n220,0,none⟩) 2 2] (some 89) (.agg (Am.arr (Ba [(Ae (Gs y8) 412 ⟨(p:Int), -1⟩),(Ae true 413 ⟨(p:Int), -1⟩)]))) [1,2,4,5,6,89] [(1,Ac p),(2,pt z),(AA z),(AB z),(CW b6),(89,.agg (Am.arr (Ba [(Ae (Gs y8) 412 ⟨(p:Int), -1⟩),(Ae true 413 ⟨(p:Int), -1⟩)])))] [0,1,2,3,4] (fun w222 hw222=>Dp w222 (hL.ext (hw222.ext rfl)) ⟨some ⟨n220,0,none⟩,2,[(Ae (Gs y8) 412 ⟨(p:Int), -1⟩),(Ae true 413 ⟨(p:Int), -1⟩)]⟩ (Eb hw222 (i:=5) [(Ae (Gs y8) 412 ⟨(p:Int), -1⟩),(Ae true 413 ⟨(p:Int), -1⟩)]) (show 2≤1000 by decide)) (fun n223 hn224 => ?_)
    replace hn224:n220+1≤n223:=hn224
    refine Bv 19 ?_
    refine BC (an 3 4) [1,2,4,5,6] [Qb b6,Qb b6,Qb b6] [(1,Ac p),(2,pt z),(AA z),(AB z),(CW b6)] ⟨w,n223,[(Ak w),(AQ c z),(AX z),(AV y8 z),(UR p y8 b6),(V6 p y8 n220)]⟩ [] ⟨rfl,rfl,rfl,Af⟩ (.inl rfl) ?_
    refine DV 20 [0,1,2,3,4,5] [(Ak w),(AQ c z),(AX z),(AV y8 z),(UR p y8 b6),(V6 p y8 n220)] rfl rfl ?_
    refine Dl ?_
    refine BR [1,2,4,5,6] [(1,Ac p),(2,pt z),(AA z),(AB z),(CW b6)] ?_
    refine BX [0,1,2,3,4] [(Ak w),(AQ c z),(AX z),(AV y8 z),(UR p y8 b6)] rfl rfl ?_
    have eB:(Ba (Jl c p))=(Ba [(Ae (Gs y8) 412 ⟨(p:Int), -1⟩),(Ae true 413 ⟨(p:Int), -1⟩)]):=by have e0:Gz c p=y8:=hy8.symm;unfold Jl;simp only[e0];first | simp[h200,show ¬ y8.Ar.xs.length≤8 by omega] | simp[h200,show y8.Ar.xs.length≤8 by omega]
    refine BR [1,2,4,5,6] [(1,Ac p),(2,pt z),(AA z),(AB z),(CW b6)] ?_
    refine Cf (fun a w' hs=>⟨n223,by omega,(by(try dsimp only[V6,UR,AX,IJ,AV,AQ,AA,AB,CW,II]at hs ⊢);rw[eB];exact hs)⟩)
   have hd225:=Ko h200
   by_cases h226:(8:Int)<(y8.Ar.xs.length:Int)
   ·refine Eo 19 [0,1,2,3,4] (II c p y8 b6 z w) rfl rfl ?_
    refine JZ [.tk 0 o0,.tk 1 (a1 3),.tk 7 o0,.tk 10 o0,.tk 11 (a1 3),.tk 12 o0,.tk 13 oF,.tk 14 o0,.cl 2 (.bool (win y8.Entry 0 4095)),.tk 3 (ov (.bool false)),.tk 4 o0,.tk 5 o0,.tk 6 o0,.cl 8 (.agg #[(Ac p),i6 (-1)]),.cl 9 (.agg (Am.arr (Ae false 412 ⟨(p:Int), -1⟩))),.cl 15 (.agg #[(Ac p),i6 (-1)]),.cl 16 (.agg (Am.arr (Ae false 413 ⟨(p:Int), -1⟩)))] [1,2,4,5,6,80,87] [(63,#[i6 y8.Entry,i6 0,i6 4095],.bool (win y8.Entry 0 4095)),(93,#[(Ac p)],.agg #[(Ac p),i6 (-1)]),(62,#[.bool false,i6 412,.agg #[(Ac p),i6 (-1)]],.agg (Am.arr (Ae false 412 ⟨(p:Int), -1⟩))),(93,#[(Ac p)],.agg #[(Ac p),i6 (-1)]),(62,#[.bool false,i6 413,.agg #[(Ac p),i6 (-1)]],.agg (Am.arr (Ae false 413 ⟨(p:Int), -1⟩)))] (DC 17 3) [Qb (z+2),Qb (z+2),BF ((y8.Ar.xs.length:Int)≤8),Value.bool (win y8.Entry 0 4095)=Value.bool false] [(1,Ac p),(2,pt z),(AA z),(AB z),(CW b6),(80,.agg (Am.arr (Ae false 412 ⟨(p:Int), -1⟩))),(87,.agg (Am.arr (Ae false 413 ⟨(p:Int), -1⟩)))] [0,1,2,3,4] ⟨rfl,rfl,bf,(congrArg Value.bool (Bool.eq_false_iff.2 h200)),Af⟩ ⟨fun w227 hw227=>BL w227 y8.Entry 0 4095,fun w228 hw228=>Dh w228 (p:Int),fun w229 hw229=>AY w229 (hL.ext (hw229.ext rfl)) false 412 (p:Int) (-1),fun w230 hw230=>Dh w230 (p:Int),fun w231 hw231=>AY w231 (hL.ext (hw231.ext rfl)) false 413 (p:Int) (-1),Af⟩ (fun n232 hn233 => ?_)
    replace hn233:n188≤n232:=hn233
    refine Bv 17 ?_
    refine BC o0 [1,2,4,5,6,88] [] [(1,Ac p),(2,pt z),(AA z),(AB z),(CW b6),(88,.slice (some ⟨n232,0,none⟩) 2 2)] ⟨w,n232+1,[(Ak w),(AQ c z),(AX z),(AV y8 z),(IJ c p b6),(Vs p n232)]⟩ [0,1,2,3,4] Af (.inr rfl) ?_
    refine Bv 18 ?_
    refine FM 91 #[.slice (some ⟨n232,0,none⟩) 2 2] (some 89) (.agg (Am.arr (Ba [(Ae false 412 ⟨(p:Int), -1⟩),(Ae false 413 ⟨(p:Int), -1⟩)]))) [1,2,4,5,6,89] [(1,Ac p),(2,pt z),(AA z),(AB z),(CW b6),(89,.agg (Am.arr (Ba [(Ae false 412 ⟨(p:Int), -1⟩),(Ae false 413 ⟨(p:Int), -1⟩)])))] [0,1,2,3,4] (fun w234 hw234=>Dp w234 (hL.ext (hw234.ext rfl)) ⟨some ⟨n232,0,none⟩,2,[(Ae false 412 ⟨(p:Int), -1⟩),(Ae false 413 ⟨(p:Int), -1⟩)]⟩ (Eb hw234 (i:=5) [(Ae false 412 ⟨(p:Int), -1⟩),(Ae false 413 ⟨(p:Int), -1⟩)]) (show 2≤1000 by decide)) (fun n235 hn236 => ?_)
    replace hn236:n232+1≤n235:=hn236
    refine Bv 19 ?_
    refine BC (an 3 4) [1,2,4,5,6] [Qb b6,Qb b6,Qb b6] [(1,Ac p),(2,pt z),(AA z),(AB z),(CW b6)] ⟨w,n235,[(Ak w),(AQ c z),(AX z),(AV y8 z),(V3 p b6),(Vs p n232)]⟩ [] ⟨rfl,rfl,rfl,Af⟩ (.inl rfl) ?_
    refine DV 20 [0,1,2,3,4,5] [(Ak w),(AQ c z),(AX z),(AV y8 z),(V3 p b6),(Vs p n232)] rfl rfl ?_
    refine Dl ?_
    refine BR [1,2,4,5,6] [(1,Ac p),(2,pt z),(AA z),(AB z),(CW b6)] ?_
    refine BX [0,1,2,3,4] [(Ak w),(AQ c z),(AX z),(AV y8 z),(V3 p b6)] rfl rfl ?_
    have eB:(Ba (Jl c p))=(Ba [(Ae false 412 ⟨(p:Int), -1⟩),(Ae false 413 ⟨(p:Int), -1⟩)]):=by have e0:Gz c p=y8:=hy8.symm;unfold Jl;simp only[e0];first | simp[h200,show ¬ y8.Ar.xs.length≤8 by omega] | simp[h200,show y8.Ar.xs.length≤8 by omega]
    refine BR [1,2,4,5,6] [(1,Ac p),(2,pt z),(AA z),(AB z),(CW b6)] ?_
    refine Cf (fun a w' hs=>⟨n235,by omega,(by(try dsimp only[Vs,V3,AX,IJ,AV,AQ,AA,AB,CW,II]at hs ⊢);rw[eB];exact hs)⟩)
   refine Eo 19 [0,1,2,3,4] (II c p y8 b6 z w) rfl rfl ?_
   refine JZ [.tk 0 o0,.tk 1 (a1 3),.tk 7 o0,.tk 10 o0,.tk 11 (a1 3),.tk 12 o0,.tk 13 oT,.tk 14 o0,.cl 2 (.bool (win y8.Entry 0 4095)),.tk 3 (ov (.bool false)),.tk 4 o0,.tk 5 o0,.tk 6 o0,.cl 8 (.agg #[(Ac p),i6 (-1)]),.cl 9 (.agg (Am.arr (Ae false 412 ⟨(p:Int), -1⟩))),.cl 15 (.agg #[(Ac p),i6 (-1)]),.cl 16 (.agg (Am.arr (Ae true 413 ⟨(p:Int), -1⟩)))] [1,2,4,5,6,80,87] [(63,#[i6 y8.Entry,i6 0,i6 4095],.bool (win y8.Entry 0 4095)),(93,#[(Ac p)],.agg #[(Ac p),i6 (-1)]),(62,#[.bool false,i6 412,.agg #[(Ac p),i6 (-1)]],.agg (Am.arr (Ae false 412 ⟨(p:Int), -1⟩))),(93,#[(Ac p)],.agg #[(Ac p),i6 (-1)]),(62,#[.bool true,i6 413,.agg #[(Ac p),i6 (-1)]],.agg (Am.arr (Ae true 413 ⟨(p:Int), -1⟩)))] (DC 17 3) [Qb (z+2),Qb (z+2),BT ((y8.Ar.xs.length:Int)≤8),Value.bool (win y8.Entry 0 4095)=Value.bool false] [(1,Ac p),(2,pt z),(AA z),(AB z),(CW b6),(80,.agg (Am.arr (Ae false 412 ⟨(p:Int), -1⟩))),(87,.agg (Am.arr (Ae true 413 ⟨(p:Int), -1⟩)))] [0,1,2,3,4] ⟨rfl,rfl,bt,(congrArg Value.bool (Bool.eq_false_iff.2 h200)),Af⟩ ⟨fun w237 hw237=>BL w237 y8.Entry 0 4095,fun w238 hw238=>Dh w238 (p:Int),fun w239 hw239=>AY w239 (hL.ext (hw239.ext rfl)) false 412 (p:Int) (-1),fun w240 hw240=>Dh w240 (p:Int),fun w241 hw241=>AY w241 (hL.ext (hw241.ext rfl)) true 413 (p:Int) (-1),Af⟩ (fun n242 hn243 => ?_)
   replace hn243:n188≤n242:=hn243
   refine Bv 17 ?_
   refine BC o0 [1,2,4,5,6,88] [] [(1,Ac p),(2,pt z),(AA z),(AB z),(CW b6),(88,.slice (some ⟨n242,0,none⟩) 2 2)] ⟨w,n242+1,[(Ak w),(AQ c z),(AX z),(AV y8 z),(IJ c p b6),(Vh p n242)]⟩ [0,1,2,3,4] Af (.inr rfl) ?_
   refine Bv 18 ?_
   refine FM 91 #[.slice (some ⟨n242,0,none⟩) 2 2] (some 89) (.agg (Am.arr (Ba [(Ae false 412 ⟨(p:Int), -1⟩),(Ae true 413 ⟨(p:Int), -1⟩)]))) [1,2,4,5,6,89] [(1,Ac p),(2,pt z),(AA z),(AB z),(CW b6),(89,.agg (Am.arr (Ba [(Ae false 412 ⟨(p:Int), -1⟩),(Ae true 413 ⟨(p:Int), -1⟩)])))] [0,1,2,3,4] (fun w244 hw244=>Dp w244 (hL.ext (hw244.ext rfl)) ⟨some ⟨n242,0,none⟩,2,[(Ae false 412 ⟨(p:Int), -1⟩),(Ae true 413 ⟨(p:Int), -1⟩)]⟩ (Eb hw244 (i:=5) [(Ae false 412 ⟨(p:Int), -1⟩),(Ae true 413 ⟨(p:Int), -1⟩)]) (show 2≤1000 by decide)) (fun n245 hn246 => ?_)
   replace hn246:n242+1≤n245:=hn246
   refine Bv 19 ?_
   refine BC (an 3 4) [1,2,4,5,6] [Qb b6,Qb b6,Qb b6] [(1,Ac p),(2,pt z),(AA z),(AB z),(CW b6)] ⟨w,n245,[(Ak w),(AQ c z),(AX z),(AV y8 z),(Vb p b6),(Vh p n242)]⟩ [] ⟨rfl,rfl,rfl,Af⟩ (.inl rfl) ?_
   refine DV 20 [0,1,2,3,4,5] [(Ak w),(AQ c z),(AX z),(AV y8 z),(Vb p b6),(Vh p n242)] rfl rfl ?_
   refine Dl ?_
   refine BR [1,2,4,5,6] [(1,Ac p),(2,pt z),(AA z),(AB z),(CW b6)] ?_
   refine BX [0,1,2,3,4] [(Ak w),(AQ c z),(AX z),(AV y8 z),(Vb p b6)] rfl rfl ?_
   have eB:(Ba (Jl c p))=(Ba [(Ae false 412 ⟨(p:Int), -1⟩),(Ae true 413 ⟨(p:Int), -1⟩)]):=by have e0:Gz c p=y8:=hy8.symm;unfold Jl;simp only[e0];first | simp[h200,show ¬ y8.Ar.xs.length≤8 by omega] | simp[h200,show y8.Ar.xs.length≤8 by omega]
   refine BR [1,2,4,5,6] [(1,Ac p),(2,pt z),(AA z),(AB z),(CW b6)] ?_
   refine Cf (fun a w' hs=>⟨n245,by omega,(by(try dsimp only[Vh,Vb,AX,IJ,AV,AQ,AA,AB,CW,II]at hs ⊢);rw[eB];exact hs)⟩)
  rintro a w' ⟨n198,hn199,hs⟩
  refine(?_:G Tryd.prog 118 [(1,Ac p),(2,pt z),(AA z),(AB z),(CW b6)] [] ⟨w,n198,[(Ak w),(AQ c z),(AX z),(AV y8 z),(.blk b6 (.cells (Am.arr (Ba (Jl c p))) 111 (0,0)) true)]⟩ _ _ _) a w' hs
  clear hs a w'
  refine Uc (fun a w'=>∃ (n247:Nat),n198≤n247∧St 118 [(AA z),(CW b6)] [] ⟨w,n247,[(Ak w),(AQ c z),(AX z),(AV y8 z),(bk b6 (Am.arr (ED c p)) 111)]⟩ a w') ?_ ?_
  ·refine Az 5 0 [] [[o0]] [] [(1,Ac p),(2,pt z),(AA z),(AB z),(CW b6),(8,i6 0)] rfl Af ?_
   refine DY (fun m a w'=>∃ (n250:Nat) (k:Nat),m=y8.Ar.xs.length - k∧n198≤n250∧(k≤y8.Ar.xs.length)∧St 118 [(1,Ac p),(2,pt z),(AA z),(AB z),(CW b6),(8,Ac k)] [] ⟨w,n250,[(Ak w),(AQ c z),(AX z),(AV y8 z),(Qe c p b6 k)]⟩ a w') (y8.Ar.xs.length - 0) ?_ ?_
   ·intro a w' hs;exact⟨n198,0,rfl,Nat.le_refl _,Nat.zero_le _,(by(try dsimp only[Qe,AX,IJ,AV,AQ,AA,AB,CW,II]at hs ⊢);rw[Pz];exact hs)⟩
   rintro m a w' ⟨n250,k,rfl,hn249,hkk,hs⟩
   refine(?_:G Tryd.prog 118 [(1,Ac p),(2,pt z),(AA z),(AB z),(CW b6),(8,Ac k)] [] ⟨w,n250,[(Ak w),(AQ c z),(AX z),(AV y8 z),(Qe c p b6 k)]⟩ _ _ _) a w' hs
   clear hs a w'
   refine DW <| DW ?_
   by_cases h251:(k:Int)<(y8.Ar.xs.length:Int)
   ·by_cases h252:(((Fq (Ba (Jl c p)) (LP c p) k).e:Int)==(0:Int)&&((((Fq (Ba (Jl c p)) (LP c p) k).Ag.First:Int)==(0:Int)&&(((Fq (Ba (Jl c p)) (LP c p) k).Ag.Second:Int)==(0:Int)&&true))&&true))=true
    ·refine Az 8 0 [1] [[o0,o0,(a1 3),o0,oT,o0,(an 3 4),(oa [.via 0 (i6 0),.via 0 (i6 0),.via 0 (i6 0)]),⟨.seq true,none⟩,o0]] [Qb (z+2),BT ((k:Int)<(y8.Ar.xs.length:Int)),Qb b6,Qb b6,Qb b6,Old w 0 0 (i6 0),Old w 0 1 (i6 0),Old w 0 2 (i6 0),(((Fq (Ba (Jl c p)) (LP c p) k).e:Int)==(0:Int)&&((((Fq (Ba (Jl c p)) (LP c p) k).Ag.First:Int)==(0:Int)&&(((Fq (Ba (Jl c p)) (LP c p) k).Ag.Second:Int)==(0:Int)&&true))&&true))=true] [(1,Ac p),(2,pt z),(AA z),(AB z),(CW b6),(8,Ac k),(99,.bool true)] rfl ⟨rfl,bt,rfl,rfl,rfl,Aw (hL.2 0 _ rfl),Aw (hL.2 1 _ rfl),Aw (hL.2 2 _ rfl),h252,Af⟩ ?_
     obtain⟨b253,o254,ha255,hF257,hc256⟩:=(he7.Ar).1.all (show 0<y8.Ar.xs.length by omega)
     replace ha255:y8.Ar.a=some ⟨b253,o254,none⟩:=ha255
     have hc258:=hc256 k (show k<y8.Ar.xs.length by omega)
     have he259:=(he7.Ar).2 k (show k<y8.Ar.xs.length by omega)
     obtain⟨y260,hy260⟩:∃ y_,y_=gd y8.Ar.xs k:=⟨_,rfl⟩
     rw[←hy260]at he259 hc258
     refine Eo 15 [0,1,2,3,4] [(Ak w),(AQ c z),(AX z),(AV y8 z),(Qe c p b6 k)] rfl rfl ?_
     refine JZ [.tk 0 o0,.tk 1 (Gy 3 b253 o254 y8.Ar),.tk 2 o0,.tk 3 (oi k),.tk 4 o0,.tk 5 (oa [.via 0 (i6 y260.Channel)]),.tk 6 o0,.tk 7 (a1 1),.tk 8 o0,.tk 9 (ov (i6 ((c.Ah.xs.length:Int) - 1))),.tk 11 o0,.tk 12 o0,.cl 10 (.bool (win y260.Channel 0 ((c.Ah.xs.length:Int) - 1))),.cl 13 (.agg #[(Ac p),Ac k]),.cl 14 (.agg (Am.arr (Ae (win y260.Channel 0 ((c.Ah.xs.length:Int) - 1)) 414 ⟨(p:Int),(k:Int)⟩)))] [1,2,4,5,6,8,116] [(63,#[i6 y260.Channel,i6 0,i6 ((c.Ah.xs.length:Int) - 1)],.bool (win y260.Channel 0 ((c.Ah.xs.length:Int) - 1))),(96,#[(Ac p),Ac k],.agg #[(Ac p),Ac k]),(62,#[.bool (win y260.Channel 0 ((c.Ah.xs.length:Int) - 1)),i6 414,.agg #[(Ac p),Ac k]],.agg (Am.arr (Ae (win y260.Channel 0 ((c.Ah.xs.length:Int) - 1)) 414 ⟨(p:Int),(k:Int)⟩)))] (DC 15 1) [Qb (z+2),FO b253 o254 y8.Ar,DJ k,k<y8.Ar.xs.length,Di,Old w b253 (o254+k*2) (i6 y260.Channel),Qb z,Wr ((c.Ah.xs.length:Int) - 1) ((c.Ah.xs.length:Int) - 1)] [(1,Ac p),(2,pt z),(AA z),(AB z),(CW b6),(8,Ac k),(116,.agg (Am.arr (Ae (win y260.Channel 0 ((c.Ah.xs.length:Int) - 1)) 414 ⟨(p:Int),(k:Int)⟩)))] [0,1,2,3,4] ⟨rfl,FP ha255,rfl,(by omega),rfl,Aw (hc258 0 _ rfl),rfl,CB,Af⟩ ⟨fun w261 hw261=>BL w261 y260.Channel 0 ((c.Ah.xs.length:Int) - 1),fun w262 hw262=>F5 w262 (p:Int) (k:Int),fun w263 hw263=>AY w263 (hL.ext (hw263.ext rfl)) (win y260.Channel 0 ((c.Ah.xs.length:Int) - 1)) 414 (p:Int) (k:Int),Af⟩ (fun n264 hn265 => ?_)
     replace hn265:n250≤n264:=hn265
     refine Bv 15 ?_
     refine BC (an 3 4) [1,2,4,5,6,8] [Qb b6,Qb b6,Qb b6] [(1,Ac p),(2,pt z),(AA z),(AB z),(CW b6),(8,Ac k)] ⟨w,n264,(UN c p y8 b6 k z w y260)⟩ [] ⟨rfl,rfl,rfl,Af⟩ (.inl rfl) ?_
     refine DV 16 [0,1,2,3,4] (UN c p y8 b6 k z w y260) rfl rfl ?_
     refine Dl ?_
     refine Oi 4 0 [] [[o0,(ov (i6 ((k+1:Nat):Int))),o0]] [Wr ((k:Int)+1) (((k+1:Nat):Int))] [(1,Ac p),(2,pt z),(AA z),(AB z),(CW b6),(8,i6 ((k+1:Nat):Int))] rfl ⟨CB,Af⟩ ?_
     have eS:=PD (F7.1 h252)
     have eP:LP c p k=(Ae (win y260.Channel 0 ((c.Ah.xs.length:Int) - 1)) 414 ⟨(p:Int),(k:Int)⟩):=by have e0:prtC c p k=y260:=(by dsimp only[prtC];rw[←hy8,←hy260]);unfold LP;rw[e0]
     refine BR [1,2,4,5,6,8] [(1,Ac p),(2,pt z),(AA z),(AB z),(CW b6),(8,i6 ((k+1:Nat):Int))] ?_
     refine Cf (fun a w' hs=>⟨y8.Ar.xs.length - (k+1),by omega,n264,(k+1),rfl,by omega,by omega,(by(try dsimp only[Qe,AX,IJ,AV,AQ,AA,AB,CW,UN,II]at hs ⊢);rw[eS,eP];exact hs)⟩)
    refine Az 8 0 [0] [[o0,o0,(a1 3),o0,oT,o0,(an 3 4),(oa [.via 0 (i6 0),.via 0 (i6 0),.via 0 (i6 0)]),⟨.seq false,none⟩,o0]] [Qb (z+2),BT ((k:Int)<(y8.Ar.xs.length:Int)),Qb b6,Qb b6,Qb b6,Old w 0 0 (i6 0),Old w 0 1 (i6 0),Old w 0 2 (i6 0),(((Fq (Ba (Jl c p)) (LP c p) k).e:Int)==(0:Int)&&((((Fq (Ba (Jl c p)) (LP c p) k).Ag.First:Int)==(0:Int)&&(((Fq (Ba (Jl c p)) (LP c p) k).Ag.Second:Int)==(0:Int)&&true))&&true))=false] [(1,Ac p),(2,pt z),(AA z),(AB z),(CW b6),(8,Ac k),(99,.bool false)] rfl ⟨rfl,bt,rfl,rfl,rfl,Aw (hL.2 0 _ rfl),Aw (hL.2 1 _ rfl),Aw (hL.2 2 _ rfl),(Bool.eq_false_iff.2 h252),Af⟩ ?_
    have eB:(ED c p)=(Fq (Ba (Jl c p)) (LP c p) k):=(if_pos hB0).trans (MJ (fun e=>h252 (F7.2 e)) (by dsimp only[Gz];rw[←hy8];omega))
    refine BR [4,6] [(AA z),(CW b6)] ?_
    refine Cf (fun a w' hs=>⟨n250,by omega,(by(try dsimp only[Qe,AX,IJ,AV,AQ,AA,AB,CW,UN,II]at hs ⊢);rw[eB];exact hs)⟩)
   refine Az 8 0 [0] [[o0,o0,(a1 3),o0,oF,o0,o0]] [Qb (z+2),BF ((k:Int)<(y8.Ar.xs.length:Int))] [(1,Ac p),(2,pt z),(AA z),(AB z),(CW b6),(8,Ac k),(99,.bool false)] rfl ⟨rfl,bf,Af⟩ ?_
   have eB:(ED c p)=(Fq (Ba (Jl c p)) (LP c p) k):=(if_pos hB0).trans (congrArg (Fq _ _) (by dsimp only[Gz];rw[←hy8];omega))
   refine BR [4,6] [(AA z),(CW b6)] ?_
   refine Cf (fun a w' hs=>⟨n250,by omega,(by(try dsimp only[Qe,AX,IJ,AV,AQ,AA,AB,CW,II]at hs ⊢);rw[eB];exact hs)⟩)
  rintro a w' ⟨n247,hn248,hs⟩
  refine(?_:G Tryd.prog 118 [(AA z),(CW b6)] [] ⟨w,n247,[(Ak w),(AQ c z),(AX z),(AV y8 z),(bk b6 (Am.arr (ED c p)) 111)]⟩ _ _ _) a w' hs
  clear hs a w'
  refine q_c 5 0 [] [[(an 3 4),(an 3 2)]] [Qb b6,Qb b6,Qb b6,Qb (z+1),Qb (z+1),Qb (z+1)] [(AA z)] ⟨w,n247,[(Ak w),(AQ c z),(bk (z+1) (Am.arr (ED c p)) 111),(AV y8 z),(bk b6 (Am.arr (ED c p)) 111)]⟩ rfl ⟨rfl,rfl,rfl,rfl,rfl,rfl,Af⟩ ?_
  refine AO [.at 2,.at 2,.at 2] [Qb (z+1),Qb (z+1),Qb (z+1)] (.agg #[i6 ((ED c p).e),i6 ((ED c p).Ag.First),i6 ((ED c p).Ag.Second)]) ⟨rfl,rfl,rfl,Af⟩ ?_
  intro w266 hw266
  exact⟨rfl,Bi hw266⟩
 refine q_c 9 0 [1] [[(an 3 4),(oa [.via 0 (i6 0),.via 0 (i6 0),.via 0 (i6 0)]),⟨.seq false,none⟩],[(an 3 4),(an 3 2)]] [Qb b6,Qb b6,Qb b6,Old w 0 0 (i6 0),Old w 0 1 (i6 0),Old w 0 2 (i6 0),(((J9 c p).e:Int)==(0:Int)&&((((J9 c p).Ag.First:Int)==(0:Int)&&(((J9 c p).Ag.Second:Int)==(0:Int)&&true))&&true))=false,Qb b6,Qb b6,Qb b6,Qb (z+1),Qb (z+1),Qb (z+1)] [(AA z)] ⟨w,n188,[(Ak w),(AQ c z),(bk (z+1) (Am.arr (J9 c p)) 111),(AV y8 z),(IJ c p b6)]⟩ rfl ⟨rfl,rfl,rfl,Aw (hL.2 0 _ rfl),Aw (hL.2 1 _ rfl),Aw (hL.2 2 _ rfl),(Bool.eq_false_iff.2 h197),rfl,rfl,rfl,rfl,rfl,rfl,Af⟩ ?_
 refine AO [.at 2,.at 2,.at 2] [Qb (z+1),Qb (z+1),Qb (z+1)] (.agg #[i6 ((J9 c p).e),i6 ((J9 c p).Ag.First),i6 ((J9 c p).Ag.Second)]) ⟨rfl,rfl,rfl,Af⟩ ?_
 intro w267 hw267
 exact⟨by rw[show ED c p=J9 c p from if_neg (fun e=>h197 (F7.2 e))],Bi hw267⟩
abbrev Oh(c:Aj)(h:Nat):AP:=gd c.Ah.xs h
def En(x:AP):Bool:=if x.Kind=2 then win x.Dy 1 8 else decide (x.Dy=0)
def A7(x:AP):Int:=if x.Kind=2 then 1 else 4
def Ez(c:Aj)(h:Nat):Am:=Ba [Ae (win (Oh c h).Kind 1 2&&win (Oh c h).Words 1 16&&En (Oh c h)) 415 ⟨(h:Int), -1⟩,Ae (decide ((KO c h:Nat)=(1:Int))) 416 ⟨(h:Int), -1⟩,Ae (win (Bo c h:Nat) 1 (A7 (Oh c h))) 417 ⟨(h:Int), -1⟩]
section
variable (n224:Nat)(y8:AP)(h:Nat)(c:Aj)(n68 n205:Nat)(n49 n114:Nat)(n160 n270:Nat)(n316 n141:Nat)(n251 n297:Nat)(n95 z:Nat)
abbrev Zbc:=bk n224 #[i6 ((Ae (En y8) 415 ⟨(h:Int), -1⟩).e),i6 ((Ae (En y8) 415 ⟨(h:Int), -1⟩).Ag.First),i6 ((Ae (En y8) 415 ⟨(h:Int), -1⟩).Ag.Second),i6 ((Ae false 416 ⟨(h:Int), -1⟩).e),i6 ((Ae false 416 ⟨(h:Int), -1⟩).Ag.First),i6 ((Ae false 416 ⟨(h:Int), -1⟩).Ag.Second),i6 ((Ae (win ((Bo c (h:Int):Nat):Int) 1 (A7 y8)) 417 ⟨(h:Int), -1⟩).e),i6 ((Ae (win ((Bo c (h:Int):Nat):Int) 1 (A7 y8)) 417 ⟨(h:Int), -1⟩).Ag.First),i6 ((Ae (win ((Bo c (h:Int):Nat):Int) 1 (A7 y8)) 417 ⟨(h:Int), -1⟩).Ag.Second)] 111
abbrev Zav:=bk n68 #[i6 ((Ae (En y8) 415 ⟨(h:Int), -1⟩).e),i6 ((Ae (En y8) 415 ⟨(h:Int), -1⟩).Ag.First),i6 ((Ae (En y8) 415 ⟨(h:Int), -1⟩).Ag.Second),i6 ((Ae false 416 ⟨(h:Int), -1⟩).e),i6 ((Ae false 416 ⟨(h:Int), -1⟩).Ag.First),i6 ((Ae false 416 ⟨(h:Int), -1⟩).Ag.Second),i6 ((Ae (win ((Bo c (h:Int):Nat):Int) 1 (A7 y8)) 417 ⟨(h:Int), -1⟩).e),i6 ((Ae (win ((Bo c (h:Int):Nat):Int) 1 (A7 y8)) 417 ⟨(h:Int), -1⟩).Ag.First),i6 ((Ae (win ((Bo c (h:Int):Nat):Int) 1 (A7 y8)) 417 ⟨(h:Int), -1⟩).Ag.Second)] 111
abbrev ZaY:=bk n205 #[i6 ((Ae (En y8) 415 ⟨(h:Int), -1⟩).e),i6 ((Ae (En y8) 415 ⟨(h:Int), -1⟩).Ag.First),i6 ((Ae (En y8) 415 ⟨(h:Int), -1⟩).Ag.Second),i6 ((Ae true 416 ⟨(h:Int), -1⟩).e),i6 ((Ae true 416 ⟨(h:Int), -1⟩).Ag.First),i6 ((Ae true 416 ⟨(h:Int), -1⟩).Ag.Second),i6 ((Ae (win ((Bo c (h:Int):Nat):Int) 1 (A7 y8)) 417 ⟨(h:Int), -1⟩).e),i6 ((Ae (win ((Bo c (h:Int):Nat):Int) 1 (A7 y8)) 417 ⟨(h:Int), -1⟩).Ag.First),i6 ((Ae (win ((Bo c (h:Int):Nat):Int) 1 (A7 y8)) 417 ⟨(h:Int), -1⟩).Ag.Second)] 111
abbrev Zbe:=bk n49 #[i6 ((Ae (En y8) 415 ⟨(h:Int), -1⟩).e),i6 ((Ae (En y8) 415 ⟨(h:Int), -1⟩).Ag.First),i6 ((Ae (En y8) 415 ⟨(h:Int), -1⟩).Ag.Second),i6 ((Ae true 416 ⟨(h:Int), -1⟩).e),i6 ((Ae true 416 ⟨(h:Int), -1⟩).Ag.First),i6 ((Ae true 416 ⟨(h:Int), -1⟩).Ag.Second),i6 ((Ae (win ((Bo c (h:Int):Nat):Int) 1 (A7 y8)) 417 ⟨(h:Int), -1⟩).e),i6 ((Ae (win ((Bo c (h:Int):Nat):Int) 1 (A7 y8)) 417 ⟨(h:Int), -1⟩).Ag.First),i6 ((Ae (win ((Bo c (h:Int):Nat):Int) 1 (A7 y8)) 417 ⟨(h:Int), -1⟩).Ag.Second)] 111
abbrev ZaQ:=bk n114 #[i6 ((Ae false 415 ⟨(h:Int), -1⟩).e),i6 ((Ae false 415 ⟨(h:Int), -1⟩).Ag.First),i6 ((Ae false 415 ⟨(h:Int), -1⟩).Ag.Second),i6 ((Ae false 416 ⟨(h:Int), -1⟩).e),i6 ((Ae false 416 ⟨(h:Int), -1⟩).Ag.First),i6 ((Ae false 416 ⟨(h:Int), -1⟩).Ag.Second),i6 ((Ae (win ((Bo c (h:Int):Nat):Int) 1 (A7 y8)) 417 ⟨(h:Int), -1⟩).e),i6 ((Ae (win ((Bo c (h:Int):Nat):Int) 1 (A7 y8)) 417 ⟨(h:Int), -1⟩).Ag.First),i6 ((Ae (win ((Bo c (h:Int):Nat):Int) 1 (A7 y8)) 417 ⟨(h:Int), -1⟩).Ag.Second)] 111
abbrev Zbb:=bk n160 #[i6 ((Ae false 415 ⟨(h:Int), -1⟩).e),i6 ((Ae false 415 ⟨(h:Int), -1⟩).Ag.First),i6 ((Ae false 415 ⟨(h:Int), -1⟩).Ag.Second),i6 ((Ae false 416 ⟨(h:Int), -1⟩).e),i6 ((Ae false 416 ⟨(h:Int), -1⟩).Ag.First),i6 ((Ae false 416 ⟨(h:Int), -1⟩).Ag.Second),i6 ((Ae (win ((Bo c (h:Int):Nat):Int) 1 (A7 y8)) 417 ⟨(h:Int), -1⟩).e),i6 ((Ae (win ((Bo c (h:Int):Nat):Int) 1 (A7 y8)) 417 ⟨(h:Int), -1⟩).Ag.First),i6 ((Ae (win ((Bo c (h:Int):Nat):Int) 1 (A7 y8)) 417 ⟨(h:Int), -1⟩).Ag.Second)] 111
abbrev Za8:=bk n270 #[i6 ((Ae false 415 ⟨(h:Int), -1⟩).e),i6 ((Ae false 415 ⟨(h:Int), -1⟩).Ag.First),i6 ((Ae false 415 ⟨(h:Int), -1⟩).Ag.Second),i6 ((Ae false 416 ⟨(h:Int), -1⟩).e),i6 ((Ae false 416 ⟨(h:Int), -1⟩).Ag.First),i6 ((Ae false 416 ⟨(h:Int), -1⟩).Ag.Second),i6 ((Ae (win ((Bo c (h:Int):Nat):Int) 1 (A7 y8)) 417 ⟨(h:Int), -1⟩).e),i6 ((Ae (win ((Bo c (h:Int):Nat):Int) 1 (A7 y8)) 417 ⟨(h:Int), -1⟩).Ag.First),i6 ((Ae (win ((Bo c (h:Int):Nat):Int) 1 (A7 y8)) 417 ⟨(h:Int), -1⟩).Ag.Second)] 111
abbrev ZaR:=bk n316 #[i6 ((Ae false 415 ⟨(h:Int), -1⟩).e),i6 ((Ae false 415 ⟨(h:Int), -1⟩).Ag.First),i6 ((Ae false 415 ⟨(h:Int), -1⟩).Ag.Second),i6 ((Ae false 416 ⟨(h:Int), -1⟩).e),i6 ((Ae false 416 ⟨(h:Int), -1⟩).Ag.First),i6 ((Ae false 416 ⟨(h:Int), -1⟩).Ag.Second),i6 ((Ae (win ((Bo c (h:Int):Nat):Int) 1 (A7 y8)) 417 ⟨(h:Int), -1⟩).e),i6 ((Ae (win ((Bo c (h:Int):Nat):Int) 1 (A7 y8)) 417 ⟨(h:Int), -1⟩).Ag.First),i6 ((Ae (win ((Bo c (h:Int):Nat):Int) 1 (A7 y8)) 417 ⟨(h:Int), -1⟩).Ag.Second)] 111
abbrev Zas:=bk n141 #[i6 ((Ae false 415 ⟨(h:Int), -1⟩).e),i6 ((Ae false 415 ⟨(h:Int), -1⟩).Ag.First),i6 ((Ae false 415 ⟨(h:Int), -1⟩).Ag.Second),i6 ((Ae true 416 ⟨(h:Int), -1⟩).e),i6 ((Ae true 416 ⟨(h:Int), -1⟩).Ag.First),i6 ((Ae true 416 ⟨(h:Int), -1⟩).Ag.Second),i6 ((Ae (win ((Bo c (h:Int):Nat):Int) 1 (A7 y8)) 417 ⟨(h:Int), -1⟩).e),i6 ((Ae (win ((Bo c (h:Int):Nat):Int) 1 (A7 y8)) 417 ⟨(h:Int), -1⟩).Ag.First),i6 ((Ae (win ((Bo c (h:Int):Nat):Int) 1 (A7 y8)) 417 ⟨(h:Int), -1⟩).Ag.Second)] 111
abbrev ZaP:=bk n251 #[i6 ((Ae false 415 ⟨(h:Int), -1⟩).e),i6 ((Ae false 415 ⟨(h:Int), -1⟩).Ag.First),i6 ((Ae false 415 ⟨(h:Int), -1⟩).Ag.Second),i6 ((Ae true 416 ⟨(h:Int), -1⟩).e),i6 ((Ae true 416 ⟨(h:Int), -1⟩).Ag.First),i6 ((Ae true 416 ⟨(h:Int), -1⟩).Ag.Second),i6 ((Ae (win ((Bo c (h:Int):Nat):Int) 1 (A7 y8)) 417 ⟨(h:Int), -1⟩).e),i6 ((Ae (win ((Bo c (h:Int):Nat):Int) 1 (A7 y8)) 417 ⟨(h:Int), -1⟩).Ag.First),i6 ((Ae (win ((Bo c (h:Int):Nat):Int) 1 (A7 y8)) 417 ⟨(h:Int), -1⟩).Ag.Second)] 111
abbrev ZH:=bk n297 #[i6 ((Ae false 415 ⟨(h:Int), -1⟩).e),i6 ((Ae false 415 ⟨(h:Int), -1⟩).Ag.First),i6 ((Ae false 415 ⟨(h:Int), -1⟩).Ag.Second),i6 ((Ae true 416 ⟨(h:Int), -1⟩).e),i6 ((Ae true 416 ⟨(h:Int), -1⟩).Ag.First),i6 ((Ae true 416 ⟨(h:Int), -1⟩).Ag.Second),i6 ((Ae (win ((Bo c (h:Int):Nat):Int) 1 (A7 y8)) 417 ⟨(h:Int), -1⟩).e),i6 ((Ae (win ((Bo c (h:Int):Nat):Int) 1 (A7 y8)) 417 ⟨(h:Int), -1⟩).Ag.First),i6 ((Ae (win ((Bo c (h:Int):Nat):Int) 1 (A7 y8)) 417 ⟨(h:Int), -1⟩).Ag.Second)] 111
abbrev ZF:=bk n95 #[i6 ((Ae false 415 ⟨(h:Int), -1⟩).e),i6 ((Ae false 415 ⟨(h:Int), -1⟩).Ag.First),i6 ((Ae false 415 ⟨(h:Int), -1⟩).Ag.Second),i6 ((Ae true 416 ⟨(h:Int), -1⟩).e),i6 ((Ae true 416 ⟨(h:Int), -1⟩).Ag.First),i6 ((Ae true 416 ⟨(h:Int), -1⟩).Ag.Second),i6 ((Ae (win ((Bo c (h:Int):Nat):Int) 1 (A7 y8)) 417 ⟨(h:Int), -1⟩).e),i6 ((Ae (win ((Bo c (h:Int):Nat):Int) 1 (A7 y8)) 417 ⟨(h:Int), -1⟩).Ag.First),i6 ((Ae (win ((Bo c (h:Int):Nat):Int) 1 (A7 y8)) 417 ⟨(h:Int), -1⟩).Ag.Second)] 111
abbrev Zx:Ch:= .blk (z+1) (.cells (Am.arr (Ba [(Ae (En y8) 415 ⟨(h:Int), -1⟩),(Ae false 416 ⟨(h:Int), -1⟩),(Ae (win ((Bo c (h:Int):Nat):Int) 1 (A7 y8)) 417 ⟨(h:Int), -1⟩)])) 111 (0,0)) true
abbrev Z5:Ch:= .blk (z+1) (.cells (Am.arr (Ba [(Ae (En y8) 415 ⟨(h:Int), -1⟩),(Ae true 416 ⟨(h:Int), -1⟩),(Ae (win ((Bo c (h:Int):Nat):Int) 1 (A7 y8)) 417 ⟨(h:Int), -1⟩)])) 111 (0,0)) true
abbrev UL:Ch:= .blk (z+1) (.cells (Am.arr (Ba [(Ae false 415 ⟨(h:Int), -1⟩),(Ae false 416 ⟨(h:Int), -1⟩),(Ae (win ((Bo c (h:Int):Nat):Int) 1 (A7 y8)) 417 ⟨(h:Int), -1⟩)])) 111 (0,0)) true
abbrev Vm:Ch:= .blk (z+1) (.cells (Am.arr (Ba [(Ae false 415 ⟨(h:Int), -1⟩),(Ae true 416 ⟨(h:Int), -1⟩),(Ae (win ((Bo c (h:Int):Nat):Int) 1 (A7 y8)) 417 ⟨(h:Int), -1⟩)])) 111 (0,0)) true
abbrev GX:=bk (z+1) #[i6 0,i6 0,i6 0] 111
abbrev EX:=bk (z+2) (AP.arr y8) 115
abbrev ER:=bk z (Aj.arr c) 26
abbrev G8:Dc:=(51,.bool (win ((Bo c (h:Int):Nat):Int) 1 (A7 y8)))
abbrev GZ:Dc:=(43,.agg (Am.arr (Ae (En y8) 415 ⟨(h:Int), -1⟩)))
abbrev IM:Dc:=(48,.agg (Am.arr (Ae false 416 ⟨(h:Int), -1⟩)))
abbrev Ef:Dc:=(43,.agg (Am.arr (Ae false 415 ⟨(h:Int), -1⟩)))
abbrev IL:Dc:=(48,.agg (Am.arr (Ae true 416 ⟨(h:Int), -1⟩)))
abbrev QJ:Dc:=(42,.agg #[(Ac h),i6 (-1)])
abbrev KQ:Dc:=(47,.agg #[(Ac h),i6 (-1)])
abbrev KU:Dc:=(53,.agg #[(Ac h),i6 (-1)])
abbrev KX:=(49,i6 ((Bo c (h:Int):Nat):Int))
abbrev Gj:=(8,i6 ((KO c (h:Int):Nat):Int))
abbrev DL:=(9,i6 ((Bo c (h:Int):Nat):Int))
abbrev AU:=(4,pt (z+1))
abbrev FW:=(5,pt (z+2))
end
theorem Yh(w:World)(hL:Iq w)(c:Aj)(hc:Aj.ok Any w c)(h:Nat)(hh:h<c.Ah.xs.length)(hm:c.Aa.xs.length≤1024)(hq:∀ p,p<c.Aa.xs.length→(gd c.Aa.xs p).Ar.xs.length≤1024):Calls Tryd.prog 71 #[.agg (Aj.arr c),.int .i64 (h:Int)] w fun e w'=>e = .returned (.agg (Am.arr (Ez c h)))∧CZ (fun _=>False) w w':=by
 obtain⟨z,hz⟩:∃ z,z=w.heap.size:=⟨_,rfl⟩
 refine Cb (args:=[.agg (Aj.arr c),Ac h]) 57 ⟨w,z,[(Ak w)]⟩ Tryd.func71 rfl (by kernel_rfl) (by kernel_rfl) (ES hz) ?_
 have hpl:=hc.Ah.1.len
 refine Ee [0,1] [(0,.agg (Aj.arr c)),(1,Ac h)] ?_
 refine q_c 5 0 [] [[o0,o0]] [] [(1,Ac h),(2,pt z),(AU z)] ⟨w,z+2,[(Ak w),(ER c z),(GX z)]⟩ rfl Af ?_
 obtain⟨b1,o2,ha3,hF5,hc4⟩:=(hc.Ah).1.all (show 0<c.Ah.xs.length by omega)
 replace ha3:c.Ah.a=some ⟨b1,o2,none⟩:=ha3
 have hc6:=hc4 h (show h<c.Ah.xs.length by omega)
 have he7:=(hc.Ah).2 h (show h<c.Ah.xs.length by omega)
 obtain⟨y8,hy8⟩:∃ y_,y_=gd c.Ah.xs h:=⟨_,rfl⟩
 rw[←hy8]at he7 hc6
 refine q_c 4 0 [] [[o0,(Gy 1 b1 o2 c.Ah),o0,(oi h),(ol 0 (AP.arr y8)),o0,(an 3 3)]] [Qb z,FO b1 o2 c.Ah,DJ h,h<c.Ah.xs.length,Di,He w b1 (o2+h*3) (AP.arr y8),Qb (z+2),Qb (z+2),Qb (z+2)] [(1,Ac h),(2,pt z),(AU z),(FW z)] ⟨w,z+3,[(Ak w),(ER c z),(GX z),(EX y8 z)]⟩ rfl ⟨rfl,FP ha3,rfl,(by omega),rfl,EH hc6,rfl,rfl,rfl,Af⟩ ?_
 by_cases h9:(y8.Dy:Int)=0
 ·refine Az 3 0 [] [[o0,(a1 3),oT,o0,o0]] [Qb (z+2),ET y8.Dy 0] [(1,Ac h),(2,pt z),(AU z),(FW z),(6,.bool true),(7,i6 4)] rfl ⟨rfl,et,Af⟩ ?_
  refine Uc (fun a w'=>∃ (n10:Nat),z+3≤n10∧St 57 [(1,Ac h),(2,pt z),(AU z),(FW z),(6,.bool (En y8)),(7,i6 (A7 y8))] [] ⟨w,n10,[(Ak w),(ER c z),(GX z),(EX y8 z)]⟩ a w') ?_ ?_
  ·refine DW ?_
   by_cases h12:(y8.Kind:Int)=2
   ·refine Az 5 2 [1] [[o0,(a1 3),oT],[o0,(a1 3)]] [Qb (z+2),ET y8.Kind 2,Qb (z+2)] [(1,Ac h),(2,pt z),(AU z),(FW z),(22,i6 y8.Dy)] rfl ⟨rfl,et,rfl,Af⟩ ?_
    refine BI 63 #[i6 y8.Dy,i6 1,i6 8] (some 23) (.bool (win y8.Dy 1 8)) (fun w13 hw13=>BL w13 y8.Dy 1 8) (fun n14 (hn15:z+3≤n14) => ?_)
    refine Cc 1 0 [] [[o0,o0]] [] [(1,Ac h),(2,pt z),(AU z),(FW z),(6,.bool (win y8.Dy 1 8)),(7,i6 1)] rfl Af ?_
    have e6:En y8=win y8.Dy 1 8:=(if_pos h12).trans (by first | rfl | exact decide_eq_true (by assumption) | exact decide_eq_false (by assumption))
    have e7:A7 y8=1:=if_pos h12
    refine BR [1,2,4,5,6,7] [(1,Ac h),(2,pt z),(AU z),(FW z),(6,.bool (win y8.Dy 1 8)),(7,i6 1)] ?_
    refine Cf (fun a w' hs=>⟨n14,by omega,(by(try dsimp only[GX,EX,ER,AU,FW]at hs ⊢);rw[e6,e7];exact hs)⟩)
   refine Az 5 0 [0] [[o0,(a1 3),oF]] [Qb (z+2),EF y8.Kind 2] [(1,Ac h),(2,pt z),(AU z),(FW z),(6,.bool true),(7,i6 4),(20,.bool false)] rfl ⟨rfl,ef,Af⟩ ?_
   have e6:En y8=true:=(if_neg h12).trans (by first | rfl | exact decide_eq_true (by assumption) | exact decide_eq_false (by assumption))
   have e7:A7 y8=4:=if_neg h12
   refine BR [1,2,4,5,6,7] [(1,Ac h),(2,pt z),(AU z),(FW z),(6,.bool true),(7,i6 4)] ?_
   refine Cf (fun a w' hs=>⟨(z+3),by omega,(by(try dsimp only[GX,EX,ER,AU,FW]at hs ⊢);rw[e6,e7];exact hs)⟩)
  rintro a w' ⟨n10,hn11,hs⟩
  refine(?_:G Tryd.prog 57 [(1,Ac h),(2,pt z),(AU z),(FW z),(6,.bool (En y8)),(7,i6 (A7 y8))] [] ⟨w,n10,[(Ak w),(ER c z),(GX z),(EX y8 z)]⟩ _ _ _) a w' hs
  clear hs a w'
  refine Az 2 2 [] [[(an 7 1),o0]] [Qb z,Qb z,Qb z,Qb z,Qb z,Qb z,Qb z] [(1,Ac h),(AU z),(FW z),(6,.bool (En y8)),(7,i6 (A7 y8)),(25,.agg (Aj.arr c)),(26,Ac h)] rfl ⟨rfl,rfl,rfl,rfl,rfl,rfl,rfl,Af⟩ ?_
  refine BI 97 #[.agg (Aj.arr c),Ac h] (some 27) (.tuple #[i6 ((KO c (h:Int):Nat):Int),i6 ((Bo c (h:Int):Nat):Int)]) (fun w16 hw16=>P8 w16 c (hc.ext (hw16.ext rfl) (fun _ h=>h)) (h:Int) hm hq) (fun n17 (hn18:n10≤n17) => ?_)
  refine Cc 4 2 [] [[o0,o0,o0,o0,o0],[o0,(a1 3)]] [Qb (z+2)] [(1,Ac h),(AU z),(FW z),(6,.bool (En y8)),(7,i6 (A7 y8)),(Gj h c),(DL h c),(31,i6 y8.Kind)] rfl ⟨rfl,Af⟩ ?_
  refine BI 63 #[i6 y8.Kind,i6 1,i6 2] (some 32) (.bool (win y8.Kind 1 2)) (fun w19 hw19=>BL w19 y8.Kind 1 2) (fun n20 (hn21:n17≤n20) => ?_)
  refine DZ [1,4,5,6,7,8,9,32] [(1,Ac h),(AU z),(FW z),(6,.bool (En y8)),(7,i6 (A7 y8)),(Gj h c),(DL h c),(32,.bool (win y8.Kind 1 2))] ?_
  by_cases h22:(win y8.Kind 1 2)=true
  ·have hd23:=H8 h22
   refine Cc 0 3 [] [[(ov (.bool true)),o0,(a1 3)]] [Value.bool (win y8.Kind 1 2)=Value.bool true,Qb (z+2)] [(1,Ac h),(AU z),(6,.bool (En y8)),(7,i6 (A7 y8)),(Gj h c),(DL h c),(33,.bool true),(35,i6 y8.Words)] rfl ⟨(congrArg Value.bool h22),rfl,Af⟩ ?_
   refine BI 63 #[i6 y8.Words,i6 1,i6 16] (some 36) (.bool (win y8.Words 1 16)) (fun w24 hw24=>BL w24 y8.Words 1 16) (fun n25 (hn26:n20≤n25) => ?_)
   refine DZ [1,4,6,7,8,9,33,36] [(1,Ac h),(AU z),(6,.bool (En y8)),(7,i6 (A7 y8)),(Gj h c),(DL h c),(33,.bool true),(36,.bool (win y8.Words 1 16))] ?_
   by_cases h27:(win y8.Words 1 16)=true
   ·have hd28:=H8 h27
    refine Cc 0 5 [] [[o0,(ov (.bool true)),o0,o0,o0]] [Value.bool (win y8.Words 1 16)=Value.bool true] [(1,Ac h),(AU z),(7,i6 (A7 y8)),(Gj h c),(DL h c),(40,.bool (En y8)),(41,Ac h)] rfl ⟨(congrArg Value.bool h27),Af⟩ ?_
    refine BI 93 #[(Ac h)] (some 42) (.agg #[(Ac h),i6 (-1)]) (fun w29 hw29=>Dh w29 (h:Int)) (fun n30 (hn31:n25≤n30) => ?_)
    refine DZ [1,4,7,8,9,40,42] [(1,Ac h),(AU z),(7,i6 (A7 y8)),(Gj h c),(DL h c),(40,.bool (En y8)),(QJ h)] ?_
    refine BI 62 #[.bool (En y8),i6 415,.agg #[(Ac h),i6 (-1)]] (some 43) (.agg (Am.arr (Ae (En y8) 415 ⟨(h:Int), -1⟩))) (fun w32 hw32=>AY w32 (hL.ext (hw32.ext rfl)) (En y8) 415 (h:Int) (-1)) (fun n33 (hn34:n30≤n33) => ?_)
    refine DZ [1,4,7,8,9,43] [(1,Ac h),(AU z),(7,i6 (A7 y8)),(Gj h c),(DL h c),(GZ y8 h)] ?_
    by_cases h35:(((KO c (h:Int):Nat):Int):Int)=1
    ·refine Cc 0 3 [] [[o0,oT,o0]] [ET ((KO c (h:Int):Nat):Int) 1] [(1,Ac h),(AU z),(7,i6 (A7 y8)),(DL h c),(GZ y8 h),(45,.bool true),(46,Ac h)] rfl ⟨et,Af⟩ ?_
     refine BI 93 #[(Ac h)] (some 47) (.agg #[(Ac h),i6 (-1)]) (fun w36 hw36=>Dh w36 (h:Int)) (fun n37 (hn38:n33≤n37) => ?_)
     refine DZ [1,4,7,9,43,45,47] [(1,Ac h),(AU z),(7,i6 (A7 y8)),(DL h c),(GZ y8 h),(45,.bool true),(KQ h)] ?_
     refine BI 62 #[.bool true,i6 416,.agg #[(Ac h),i6 (-1)]] (some 48) (.agg (Am.arr (Ae true 416 ⟨(h:Int), -1⟩))) (fun w39 hw39=>AY w39 (hL.ext (hw39.ext rfl)) true 416 (h:Int) (-1)) (fun n40 (hn41:n37≤n40) => ?_)
     refine Cc 0 2 [] [[o0,o0]] [] [(1,Ac h),(AU z),(GZ y8 h),(IL h),(KX h c),(50,i6 (A7 y8))] rfl Af ?_
     refine BI 63 #[i6 ((Bo c (h:Int):Nat):Int),i6 1,i6 (A7 y8)] (some 51) (.bool (win ((Bo c (h:Int):Nat):Int) 1 (A7 y8))) (fun w42 hw42=>BL w42 ((Bo c (h:Int):Nat):Int) 1 (A7 y8)) (fun n43 (hn44:n40≤n43) => ?_)
     refine Cc 0 1 [] [[o0]] [] [(AU z),(GZ y8 h),(IL h),(G8 y8 h c),(52,Ac h)] rfl Af ?_
     refine BI 93 #[(Ac h)] (some 53) (.agg #[(Ac h),i6 (-1)]) (fun w45 hw45=>Dh w45 (h:Int)) (fun n46 (hn47:n43≤n46) => ?_)
     refine DZ [4,43,48,51,53] [(AU z),(GZ y8 h),(IL h),(G8 y8 h c),(KU h)] ?_
     refine BI 62 #[.bool (win ((Bo c (h:Int):Nat):Int) 1 (A7 y8)),i6 417,.agg #[(Ac h),i6 (-1)]] (some 54) (.agg (Am.arr (Ae (win ((Bo c (h:Int):Nat):Int) 1 (A7 y8)) 417 ⟨(h:Int), -1⟩))) (fun w48 hw48=>AY w48 (hL.ext (hw48.ext rfl)) (win ((Bo c (h:Int):Nat):Int) 1 (A7 y8)) 417 (h:Int) (-1)) (fun n49 (hn50:n46≤n49) => ?_)
     refine Gi 0 1 [] [[o0]] [] [(AU z),(55,.slice (some ⟨n49,0,none⟩) 3 3)] ⟨w,n49+1,[(Ak w),(ER c z),(GX z),(EX y8 z),(Zbe y8 h c n49)]⟩ rfl Af ?_
     refine BI 91 #[.slice (some ⟨n49,0,none⟩) 3 3] (some 56) (.agg (Am.arr (Ba [(Ae (En y8) 415 ⟨(h:Int), -1⟩),(Ae true 416 ⟨(h:Int), -1⟩),(Ae (win ((Bo c (h:Int):Nat):Int) 1 (A7 y8)) 417 ⟨(h:Int), -1⟩)]))) (fun w51 hw51=>Dp w51 (hL.ext (hw51.ext rfl)) ⟨some ⟨n49,0,none⟩,3,[(Ae (En y8) 415 ⟨(h:Int), -1⟩),(Ae true 416 ⟨(h:Int), -1⟩),(Ae (win ((Bo c (h:Int):Nat):Int) 1 (A7 y8)) 417 ⟨(h:Int), -1⟩)]⟩ (Eb hw51 (i:=4) [(Ae (En y8) 415 ⟨(h:Int), -1⟩),(Ae true 416 ⟨(h:Int), -1⟩),(Ae (win ((Bo c (h:Int):Nat):Int) 1 (A7 y8)) 417 ⟨(h:Int), -1⟩)]) (show 3≤1000 by decide)) (fun n52 (hn53:n49+1≤n52) => ?_)
     refine Gi 3 0 [] [[(an 3 2)]] [Qb (z+1),Qb (z+1),Qb (z+1)] [(AU z)] ⟨w,n52,[(Ak w),(ER c z),(Z5 y8 h c z),(EX y8 z),(Zbe y8 h c n49)]⟩ rfl ⟨rfl,rfl,rfl,Af⟩ ?_
     refine AO [.at 2,.at 2,.at 2] [Qb (z+1),Qb (z+1),Qb (z+1)] (.agg #[i6 ((Ba [(Ae (En y8) 415 ⟨(h:Int), -1⟩),(Ae true 416 ⟨(h:Int), -1⟩),(Ae (win ((Bo c (h:Int):Nat):Int) 1 (A7 y8)) 417 ⟨(h:Int), -1⟩)]).e),i6 ((Ba [(Ae (En y8) 415 ⟨(h:Int), -1⟩),(Ae true 416 ⟨(h:Int), -1⟩),(Ae (win ((Bo c (h:Int):Nat):Int) 1 (A7 y8)) 417 ⟨(h:Int), -1⟩)]).Ag.First),i6 ((Ba [(Ae (En y8) 415 ⟨(h:Int), -1⟩),(Ae true 416 ⟨(h:Int), -1⟩),(Ae (win ((Bo c (h:Int):Nat):Int) 1 (A7 y8)) 417 ⟨(h:Int), -1⟩)]).Ag.Second)]) ⟨rfl,rfl,rfl,Af⟩ ?_
     intro w54 hw54
     have e0:Oh c h=y8:=hy8.symm
     have eC:Ez c h=(Ba [(Ae (En y8) 415 ⟨(h:Int), -1⟩),(Ae true 416 ⟨(h:Int), -1⟩),(Ae (win ((Bo c (h:Int):Nat):Int) 1 (A7 y8)) 417 ⟨(h:Int), -1⟩)]):=by unfold Ez;simp only[e0];simp[h22,h27,h35]
     exact⟨congrArg (fun t=>Ending.returned (Value.agg (Am.arr t))) eC.symm,Bi hw54⟩
    refine Cc 0 3 [] [[o0,oF,o0]] [EF ((KO c (h:Int):Nat):Int) 1] [(1,Ac h),(AU z),(7,i6 (A7 y8)),(DL h c),(GZ y8 h),(45,.bool false),(46,Ac h)] rfl ⟨ef,Af⟩ ?_
    refine BI 93 #[(Ac h)] (some 47) (.agg #[(Ac h),i6 (-1)]) (fun w55 hw55=>Dh w55 (h:Int)) (fun n56 (hn57:n33≤n56) => ?_)
    refine DZ [1,4,7,9,43,45,47] [(1,Ac h),(AU z),(7,i6 (A7 y8)),(DL h c),(GZ y8 h),(45,.bool false),(KQ h)] ?_
    refine BI 62 #[.bool false,i6 416,.agg #[(Ac h),i6 (-1)]] (some 48) (.agg (Am.arr (Ae false 416 ⟨(h:Int), -1⟩))) (fun w58 hw58=>AY w58 (hL.ext (hw58.ext rfl)) false 416 (h:Int) (-1)) (fun n59 (hn60:n56≤n59) => ?_)
    refine Cc 0 2 [] [[o0,o0]] [] [(1,Ac h),(AU z),(GZ y8 h),(IM h),(KX h c),(50,i6 (A7 y8))] rfl Af ?_
    refine BI 63 #[i6 ((Bo c (h:Int):Nat):Int),i6 1,i6 (A7 y8)] (some 51) (.bool (win ((Bo c (h:Int):Nat):Int) 1 (A7 y8))) (fun w61 hw61=>BL w61 ((Bo c (h:Int):Nat):Int) 1 (A7 y8)) (fun n62 (hn63:n59≤n62) => ?_)
    refine Cc 0 1 [] [[o0]] [] [(AU z),(GZ y8 h),(IM h),(G8 y8 h c),(52,Ac h)] rfl Af ?_
    refine BI 93 #[(Ac h)] (some 53) (.agg #[(Ac h),i6 (-1)]) (fun w64 hw64=>Dh w64 (h:Int)) (fun n65 (hn66:n62≤n65) => ?_)
    refine DZ [4,43,48,51,53] [(AU z),(GZ y8 h),(IM h),(G8 y8 h c),(KU h)] ?_
    refine BI 62 #[.bool (win ((Bo c (h:Int):Nat):Int) 1 (A7 y8)),i6 417,.agg #[(Ac h),i6 (-1)]] (some 54) (.agg (Am.arr (Ae (win ((Bo c (h:Int):Nat):Int) 1 (A7 y8)) 417 ⟨(h:Int), -1⟩))) (fun w67 hw67=>AY w67 (hL.ext (hw67.ext rfl)) (win ((Bo c (h:Int):Nat):Int) 1 (A7 y8)) 417 (h:Int) (-1)) (fun n68 (hn69:n65≤n68) => ?_)
    refine Gi 0 1 [] [[o0]] [] [(AU z),(55,.slice (some ⟨n68,0,none⟩) 3 3)] ⟨w,n68+1,[(Ak w),(ER c z),(GX z),(EX y8 z),(Zav y8 h c n68)]⟩ rfl Af ?_
    refine BI 91 #[.slice (some ⟨n68,0,none⟩) 3 3] (some 56) (.agg (Am.arr (Ba [(Ae (En y8) 415 ⟨(h:Int), -1⟩),(Ae false 416 ⟨(h:Int), -1⟩),(Ae (win ((Bo c (h:Int):Nat):Int) 1 (A7 y8)) 417 ⟨(h:Int), -1⟩)]))) (fun w70 hw70=>Dp w70 (hL.ext (hw70.ext rfl)) ⟨some ⟨n68,0,none⟩,3,[(Ae (En y8) 415 ⟨(h:Int), -1⟩),(Ae false 416 ⟨(h:Int), -1⟩),(Ae (win ((Bo c (h:Int):Nat):Int) 1 (A7 y8)) 417 ⟨(h:Int), -1⟩)]⟩ (Eb hw70 (i:=4) [(Ae (En y8) 415 ⟨(h:Int), -1⟩),(Ae false 416 ⟨(h:Int), -1⟩),(Ae (win ((Bo c (h:Int):Nat):Int) 1 (A7 y8)) 417 ⟨(h:Int), -1⟩)]) (show 3≤1000 by decide)) (fun n71 (hn72:n68+1≤n71) => ?_)
    refine Gi 3 0 [] [[(an 3 2)]] [Qb (z+1),Qb (z+1),Qb (z+1)] [(AU z)] ⟨w,n71,[(Ak w),(ER c z),(Zx y8 h c z),(EX y8 z),(Zav y8 h c n68)]⟩ rfl ⟨rfl,rfl,rfl,Af⟩ ?_
    refine AO [.at 2,.at 2,.at 2] [Qb (z+1),Qb (z+1),Qb (z+1)] (.agg #[i6 ((Ba [(Ae (En y8) 415 ⟨(h:Int), -1⟩),(Ae false 416 ⟨(h:Int), -1⟩),(Ae (win ((Bo c (h:Int):Nat):Int) 1 (A7 y8)) 417 ⟨(h:Int), -1⟩)]).e),i6 ((Ba [(Ae (En y8) 415 ⟨(h:Int), -1⟩),(Ae false 416 ⟨(h:Int), -1⟩),(Ae (win ((Bo c (h:Int):Nat):Int) 1 (A7 y8)) 417 ⟨(h:Int), -1⟩)]).Ag.First),i6 ((Ba [(Ae (En y8) 415 ⟨(h:Int), -1⟩),(Ae false 416 ⟨(h:Int), -1⟩),(Ae (win ((Bo c (h:Int):Nat):Int) 1 (A7 y8)) 417 ⟨(h:Int), -1⟩)]).Ag.Second)]) ⟨rfl,rfl,rfl,Af⟩ ?_
    intro w73 hw73
    have e0:Oh c h=y8:=hy8.symm
    have eC:Ez c h=(Ba [(Ae (En y8) 415 ⟨(h:Int), -1⟩),(Ae false 416 ⟨(h:Int), -1⟩),(Ae (win ((Bo c (h:Int):Nat):Int) 1 (A7 y8)) 417 ⟨(h:Int), -1⟩)]):=by unfold Ez;simp only[e0];simp[h22,h27,h35]
    exact⟨congrArg (fun t=>Ending.returned (Value.agg (Am.arr t))) eC.symm,Bi hw73⟩
   have hd74:=Ko h27
   refine Cc 0 5 [] [[o0,(ov (.bool false)),o0,o0]] [Value.bool (win y8.Words 1 16)=Value.bool false] [(1,Ac h),(AU z),(7,i6 (A7 y8)),(Gj h c),(DL h c),(40,.bool false),(41,Ac h)] rfl ⟨(congrArg Value.bool (Bool.eq_false_iff.2 h27)),Af⟩ ?_
   refine BI 93 #[(Ac h)] (some 42) (.agg #[(Ac h),i6 (-1)]) (fun w75 hw75=>Dh w75 (h:Int)) (fun n76 (hn77:n25≤n76) => ?_)
   refine DZ [1,4,7,8,9,40,42] [(1,Ac h),(AU z),(7,i6 (A7 y8)),(Gj h c),(DL h c),(40,.bool false),(QJ h)] ?_
   refine BI 62 #[.bool false,i6 415,.agg #[(Ac h),i6 (-1)]] (some 43) (.agg (Am.arr (Ae false 415 ⟨(h:Int), -1⟩))) (fun w78 hw78=>AY w78 (hL.ext (hw78.ext rfl)) false 415 (h:Int) (-1)) (fun n79 (hn80:n76≤n79) => ?_)
   refine DZ [1,4,7,8,9,43] [(1,Ac h),(AU z),(7,i6 (A7 y8)),(Gj h c),(DL h c),(Ef h)] ?_
   by_cases h81:(((KO c (h:Int):Nat):Int):Int)=1
   ·refine Cc 0 3 [] [[o0,oT,o0]] [ET ((KO c (h:Int):Nat):Int) 1] [(1,Ac h),(AU z),(7,i6 (A7 y8)),(DL h c),(Ef h),(45,.bool true),(46,Ac h)] rfl ⟨et,Af⟩ ?_
    refine BI 93 #[(Ac h)] (some 47) (.agg #[(Ac h),i6 (-1)]) (fun w82 hw82=>Dh w82 (h:Int)) (fun n83 (hn84:n79≤n83) => ?_)
    refine DZ [1,4,7,9,43,45,47] [(1,Ac h),(AU z),(7,i6 (A7 y8)),(DL h c),(Ef h),(45,.bool true),(KQ h)] ?_
    refine BI 62 #[.bool true,i6 416,.agg #[(Ac h),i6 (-1)]] (some 48) (.agg (Am.arr (Ae true 416 ⟨(h:Int), -1⟩))) (fun w85 hw85=>AY w85 (hL.ext (hw85.ext rfl)) true 416 (h:Int) (-1)) (fun n86 (hn87:n83≤n86) => ?_)
    refine Cc 0 2 [] [[o0,o0]] [] [(1,Ac h),(AU z),(Ef h),(IL h),(KX h c),(50,i6 (A7 y8))] rfl Af ?_
    refine BI 63 #[i6 ((Bo c (h:Int):Nat):Int),i6 1,i6 (A7 y8)] (some 51) (.bool (win ((Bo c (h:Int):Nat):Int) 1 (A7 y8))) (fun w88 hw88=>BL w88 ((Bo c (h:Int):Nat):Int) 1 (A7 y8)) (fun n89 (hn90:n86≤n89) => ?_)
    refine Cc 0 1 [] [[o0]] [] [(AU z),(Ef h),(IL h),(G8 y8 h c),(52,Ac h)] rfl Af ?_
    refine BI 93 #[(Ac h)] (some 53) (.agg #[(Ac h),i6 (-1)]) (fun w91 hw91=>Dh w91 (h:Int)) (fun n92 (hn93:n89≤n92) => ?_)
    refine DZ [4,43,48,51,53] [(AU z),(Ef h),(IL h),(G8 y8 h c),(KU h)] ?_
    refine BI 62 #[.bool (win ((Bo c (h:Int):Nat):Int) 1 (A7 y8)),i6 417,.agg #[(Ac h),i6 (-1)]] (some 54) (.agg (Am.arr (Ae (win ((Bo c (h:Int):Nat):Int) 1 (A7 y8)) 417 ⟨(h:Int), -1⟩))) (fun w94 hw94=>AY w94 (hL.ext (hw94.ext rfl)) (win ((Bo c (h:Int):Nat):Int) 1 (A7 y8)) 417 (h:Int) (-1)) (fun n95 (hn96:n92≤n95) => ?_)
    refine Gi 0 1 [] [[o0]] [] [(AU z),(55,.slice (some ⟨n95,0,none⟩) 3 3)] ⟨w,n95+1,[(Ak w),(ER c z),(GX z),(EX y8 z),(ZF y8 h c n95)]⟩ rfl Af ?_
    refine BI 91 #[.slice (some ⟨n95,0,none⟩) 3 3] (some 56) (.agg (Am.arr (Ba [(Ae false 415 ⟨(h:Int), -1⟩),(Ae true 416 ⟨(h:Int), -1⟩),(Ae (win ((Bo c (h:Int):Nat):Int) 1 (A7 y8)) 417 ⟨(h:Int), -1⟩)]))) (fun w97 hw97=>Dp w97 (hL.ext (hw97.ext rfl)) ⟨some ⟨n95,0,none⟩,3,[(Ae false 415 ⟨(h:Int), -1⟩),(Ae true 416 ⟨(h:Int), -1⟩),(Ae (win ((Bo c (h:Int):Nat):Int) 1 (A7 y8)) 417 ⟨(h:Int), -1⟩)]⟩ (Eb hw97 (i:=4) [(Ae false 415 ⟨(h:Int), -1⟩),(Ae true 416 ⟨(h:Int), -1⟩),(Ae (win ((Bo c (h:Int):Nat):Int) 1 (A7 y8)) 417 ⟨(h:Int), -1⟩)]) (show 3≤1000 by decide)) (fun n98 (hn99:n95+1≤n98) => ?_)
    refine Gi 3 0 [] [[(an 3 2)]] [Qb (z+1),Qb (z+1),Qb (z+1)] [(AU z)] ⟨w,n98,[(Ak w),(ER c z),(Vm y8 h c z),(EX y8 z),(ZF y8 h c n95)]⟩ rfl ⟨rfl,rfl,rfl,Af⟩ ?_
    refine AO [.at 2,.at 2,.at 2] [Qb (z+1),Qb (z+1),Qb (z+1)] (.agg #[i6 ((Ba [(Ae false 415 ⟨(h:Int), -1⟩),(Ae true 416 ⟨(h:Int), -1⟩),(Ae (win ((Bo c (h:Int):Nat):Int) 1 (A7 y8)) 417 ⟨(h:Int), -1⟩)]).e),i6 ((Ba [(Ae false 415 ⟨(h:Int), -1⟩),(Ae true 416 ⟨(h:Int), -1⟩),(Ae (win ((Bo c (h:Int):Nat):Int) 1 (A7 y8)) 417 ⟨(h:Int), -1⟩)]).Ag.First),i6 ((Ba [(Ae false 415 ⟨(h:Int), -1⟩),(Ae true 416 ⟨(h:Int), -1⟩),(Ae (win ((Bo c (h:Int):Nat):Int) 1 (A7 y8)) 417 ⟨(h:Int), -1⟩)]).Ag.Second)]) ⟨rfl,rfl,rfl,Af⟩ ?_
    intro w100 hw100
    have e0:Oh c h=y8:=hy8.symm
    have eC:Ez c h=(Ba [(Ae false 415 ⟨(h:Int), -1⟩),(Ae true 416 ⟨(h:Int), -1⟩),(Ae (win ((Bo c (h:Int):Nat):Int) 1 (A7 y8)) 417 ⟨(h:Int), -1⟩)]):=by unfold Ez;simp only[e0];simp[h22,h27,h81]
    exact⟨congrArg (fun t=>Ending.returned (Value.agg (Am.arr t))) eC.symm,Bi hw100⟩
   refine Cc 0 3 [] [[o0,oF,o0]] [EF ((KO c (h:Int):Nat):Int) 1] [(1,Ac h),(AU z),(7,i6 (A7 y8)),(DL h c),(Ef h),(45,.bool false),(46,Ac h)] rfl ⟨ef,Af⟩ ?_
   refine BI 93 #[(Ac h)] (some 47) (.agg #[(Ac h),i6 (-1)]) (fun w101 hw101=>Dh w101 (h:Int)) (fun n102 (hn103:n79≤n102) => ?_)
   refine DZ [1,4,7,9,43,45,47] [(1,Ac h),(AU z),(7,i6 (A7 y8)),(DL h c),(Ef h),(45,.bool false),(KQ h)] ?_
   refine BI 62 #[.bool false,i6 416,.agg #[(Ac h),i6 (-1)]] (some 48) (.agg (Am.arr (Ae false 416 ⟨(h:Int), -1⟩))) (fun w104 hw104=>AY w104 (hL.ext (hw104.ext rfl)) false 416 (h:Int) (-1)) (fun n105 (hn106:n102≤n105) => ?_)
   refine Cc 0 2 [] [[o0,o0]] [] [(1,Ac h),(AU z),(Ef h),(IM h),(KX h c),(50,i6 (A7 y8))] rfl Af ?_
   refine BI 63 #[i6 ((Bo c (h:Int):Nat):Int),i6 1,i6 (A7 y8)] (some 51) (.bool (win ((Bo c (h:Int):Nat):Int) 1 (A7 y8))) (fun w107 hw107=>BL w107 ((Bo c (h:Int):Nat):Int) 1 (A7 y8)) (fun n108 (hn109:n105≤n108) => ?_)
   refine Cc 0 1 [] [[o0]] [] [(AU z),(Ef h),(IM h),(G8 y8 h c),(52,Ac h)] rfl Af ?_
   refine BI 93 #[(Ac h)] (some 53) (.agg #[(Ac h),i6 (-1)]) (fun w110 hw110=>Dh w110 (h:Int)) (fun n111 (hn112:n108≤n111) => ?_)
   refine DZ [4,43,48,51,53] [(AU z),(Ef h),(IM h),(G8 y8 h c),(KU h)] ?_
   refine BI 62 #[.bool (win ((Bo c (h:Int):Nat):Int) 1 (A7 y8)),i6 417,.agg #[(Ac h),i6 (-1)]] (some 54) (.agg (Am.arr (Ae (win ((Bo c (h:Int):Nat):Int) 1 (A7 y8)) 417 ⟨(h:Int), -1⟩))) (fun w113 hw113=>AY w113 (hL.ext (hw113.ext rfl)) (win ((Bo c (h:Int):Nat):Int) 1 (A7 y8)) 417 (h:Int) (-1)) (fun n114 (hn115:n111≤n114) => ?_)
   refine Gi 0 1 [] [[o0]] [] [(AU z),(55,.slice (some ⟨n114,0,none⟩) 3 3)] ⟨w,n114+1,[(Ak w),(ER c z),(GX z),(EX y8 z),(ZaQ y8 h c n114)]⟩ rfl Af ?_
   refine BI 91 #[.slice (some ⟨n114,0,none⟩) 3 3] (some 56) (.agg (Am.arr (Ba [(Ae false 415 ⟨(h:Int), -1⟩),(Ae false 416 ⟨(h:Int), -1⟩),(Ae (win ((Bo c (h:Int):Nat):Int) 1 (A7 y8)) 417 ⟨(h:Int), -1⟩)]))) (fun w116 hw116=>Dp w116 (hL.ext (hw116.ext rfl)) ⟨some ⟨n114,0,none⟩,3,[(Ae false 415 ⟨(h:Int), -1⟩),(Ae false 416 ⟨(h:Int), -1⟩),(Ae (win ((Bo c (h:Int):Nat):Int) 1 (A7 y8)) 417 ⟨(h:Int), -1⟩)]⟩ (Eb hw116 (i:=4) [(Ae false 415 ⟨(h:Int), -1⟩),(Ae false 416 ⟨(h:Int), -1⟩),(Ae (win ((Bo c (h:Int):Nat):Int) 1 (A7 y8)) 417 ⟨(h:Int), -1⟩)]) (show 3≤1000 by decide)) (fun n117 (hn118:n114+1≤n117) => ?_)
   refine Gi 3 0 [] [[(an 3 2)]] [Qb (z+1),Qb (z+1),Qb (z+1)] [(AU z)] ⟨w,n117,[(Ak w),(ER c z),(UL y8 h c z),(EX y8 z),(ZaQ y8 h c n114)]⟩ rfl ⟨rfl,rfl,rfl,Af⟩ ?_
   refine AO [.at 2,.at 2,.at 2] [Qb (z+1),Qb (z+1),Qb (z+1)] (.agg #[i6 ((Ba [(Ae false 415 ⟨(h:Int), -1⟩),(Ae false 416 ⟨(h:Int), -1⟩),(Ae (win ((Bo c (h:Int):Nat):Int) 1 (A7 y8)) 417 ⟨(h:Int), -1⟩)]).e),i6 ((Ba [(Ae false 415 ⟨(h:Int), -1⟩),(Ae false 416 ⟨(h:Int), -1⟩),(Ae (win ((Bo c (h:Int):Nat):Int) 1 (A7 y8)) 417 ⟨(h:Int), -1⟩)]).Ag.First),i6 ((Ba [(Ae false 415 ⟨(h:Int), -1⟩),(Ae false 416 ⟨(h:Int), -1⟩),(Ae (win ((Bo c (h:Int):Nat):Int) 1 (A7 y8)) 417 ⟨(h:Int), -1⟩)]).Ag.Second)]) ⟨rfl,rfl,rfl,Af⟩ ?_
   intro w119 hw119
   have e0:Oh c h=y8:=hy8.symm
   have eC:Ez c h=(Ba [(Ae false 415 ⟨(h:Int), -1⟩),(Ae false 416 ⟨(h:Int), -1⟩),(Ae (win ((Bo c (h:Int):Nat):Int) 1 (A7 y8)) 417 ⟨(h:Int), -1⟩)]):=by unfold Ez;simp only[e0];simp[h22,h27,h81]
   exact⟨congrArg (fun t=>Ending.returned (Value.agg (Am.arr t))) eC.symm,Bi hw119⟩
  have hd120:=Ko h22
  refine Cc 0 9 [] [[(ov (.bool false)),o0,o0,o0,o0]] [Value.bool (win y8.Kind 1 2)=Value.bool false] [(1,Ac h),(AU z),(7,i6 (A7 y8)),(Gj h c),(DL h c),(40,.bool false),(41,Ac h)] rfl ⟨(congrArg Value.bool (Bool.eq_false_iff.2 h22)),Af⟩ ?_
  refine BI 93 #[(Ac h)] (some 42) (.agg #[(Ac h),i6 (-1)]) (fun w121 hw121=>Dh w121 (h:Int)) (fun n122 (hn123:n20≤n122) => ?_)
  refine DZ [1,4,7,8,9,40,42] [(1,Ac h),(AU z),(7,i6 (A7 y8)),(Gj h c),(DL h c),(40,.bool false),(QJ h)] ?_
  refine BI 62 #[.bool false,i6 415,.agg #[(Ac h),i6 (-1)]] (some 43) (.agg (Am.arr (Ae false 415 ⟨(h:Int), -1⟩))) (fun w124 hw124=>AY w124 (hL.ext (hw124.ext rfl)) false 415 (h:Int) (-1)) (fun n125 (hn126:n122≤n125) => ?_)
  refine DZ [1,4,7,8,9,43] [(1,Ac h),(AU z),(7,i6 (A7 y8)),(Gj h c),(DL h c),(Ef h)] ?_
  by_cases h127:(((KO c (h:Int):Nat):Int):Int)=1
  ·refine Cc 0 3 [] [[o0,oT,o0]] [ET ((KO c (h:Int):Nat):Int) 1] [(1,Ac h),(AU z),(7,i6 (A7 y8)),(DL h c),(Ef h),(45,.bool true),(46,Ac h)] rfl ⟨et,Af⟩ ?_
   refine BI 93 #[(Ac h)] (some 47) (.agg #[(Ac h),i6 (-1)]) (fun w128 hw128=>Dh w128 (h:Int)) (fun n129 (hn130:n125≤n129) => ?_)
   refine DZ [1,4,7,9,43,45,47] [(1,Ac h),(AU z),(7,i6 (A7 y8)),(DL h c),(Ef h),(45,.bool true),(KQ h)] ?_
   refine BI 62 #[.bool true,i6 416,.agg #[(Ac h),i6 (-1)]] (some 48) (.agg (Am.arr (Ae true 416 ⟨(h:Int), -1⟩))) (fun w131 hw131=>AY w131 (hL.ext (hw131.ext rfl)) true 416 (h:Int) (-1)) (fun n132 (hn133:n129≤n132) => ?_)
   refine Cc 0 2 [] [[o0,o0]] [] [(1,Ac h),(AU z),(Ef h),(IL h),(KX h c),(50,i6 (A7 y8))] rfl Af ?_
   refine BI 63 #[i6 ((Bo c (h:Int):Nat):Int),i6 1,i6 (A7 y8)] (some 51) (.bool (win ((Bo c (h:Int):Nat):Int) 1 (A7 y8))) (fun w134 hw134=>BL w134 ((Bo c (h:Int):Nat):Int) 1 (A7 y8)) (fun n135 (hn136:n132≤n135) => ?_)
   refine Cc 0 1 [] [[o0]] [] [(AU z),(Ef h),(IL h),(G8 y8 h c),(52,Ac h)] rfl Af ?_
   refine BI 93 #[(Ac h)] (some 53) (.agg #[(Ac h),i6 (-1)]) (fun w137 hw137=>Dh w137 (h:Int)) (fun n138 (hn139:n135≤n138) => ?_)
   refine DZ [4,43,48,51,53] [(AU z),(Ef h),(IL h),(G8 y8 h c),(KU h)] ?_
   refine BI 62 #[.bool (win ((Bo c (h:Int):Nat):Int) 1 (A7 y8)),i6 417,.agg #[(Ac h),i6 (-1)]] (some 54) (.agg (Am.arr (Ae (win ((Bo c (h:Int):Nat):Int) 1 (A7 y8)) 417 ⟨(h:Int), -1⟩))) (fun w140 hw140=>AY w140 (hL.ext (hw140.ext rfl)) (win ((Bo c (h:Int):Nat):Int) 1 (A7 y8)) 417 (h:Int) (-1)) (fun n141 (hn142:n138≤n141) => ?_)
   refine Gi 0 1 [] [[o0]] [] [(AU z),(55,.slice (some ⟨n141,0,none⟩) 3 3)] ⟨w,n141+1,[(Ak w),(ER c z),(GX z),(EX y8 z),(Zas y8 h c n141)]⟩ rfl Af ?_
   refine BI 91 #[.slice (some ⟨n141,0,none⟩) 3 3] (some 56) (.agg (Am.arr (Ba [(Ae false 415 ⟨(h:Int), -1⟩),(Ae true 416 ⟨(h:Int), -1⟩),(Ae (win ((Bo c (h:Int):Nat):Int) 1 (A7 y8)) 417 ⟨(h:Int), -1⟩)]))) (fun w143 hw143=>Dp w143 (hL.ext (hw143.ext rfl)) ⟨some ⟨n141,0,none⟩,3,[(Ae false 415 ⟨(h:Int), -1⟩),(Ae true 416 ⟨(h:Int), -1⟩),(Ae (win ((Bo c (h:Int):Nat):Int) 1 (A7 y8)) 417 ⟨(h:Int), -1⟩)]⟩ (Eb hw143 (i:=4) [(Ae false 415 ⟨(h:Int), -1⟩),(Ae true 416 ⟨(h:Int), -1⟩),(Ae (win ((Bo c (h:Int):Nat):Int) 1 (A7 y8)) 417 ⟨(h:Int), -1⟩)]) (show 3≤1000 by decide)) (fun n144 (hn145:n141+1≤n144) => ?_)
   refine Gi 3 0 [] [[(an 3 2)]] [Qb (z+1),Qb (z+1),Qb (z+1)] [(AU z)] ⟨w,n144,[(Ak w),(ER c z),(Vm y8 h c z),(EX y8 z),(Zas y8 h c n141)]⟩ rfl ⟨rfl,rfl,rfl,Af⟩ ?_
   refine AO [.at 2,.at 2,.at 2] [Qb (z+1),Qb (z+1),Qb (z+1)] (.agg #[i6 ((Ba [(Ae false 415 ⟨(h:Int), -1⟩),(Ae true 416 ⟨(h:Int), -1⟩),(Ae (win ((Bo c (h:Int):Nat):Int) 1 (A7 y8)) 417 ⟨(h:Int), -1⟩)]).e),i6 ((Ba [(Ae false 415 ⟨(h:Int), -1⟩),(Ae true 416 ⟨(h:Int), -1⟩),(Ae (win ((Bo c (h:Int):Nat):Int) 1 (A7 y8)) 417 ⟨(h:Int), -1⟩)]).Ag.First),i6 ((Ba [(Ae false 415 ⟨(h:Int), -1⟩),(Ae true 416 ⟨(h:Int), -1⟩),(Ae (win ((Bo c (h:Int):Nat):Int) 1 (A7 y8)) 417 ⟨(h:Int), -1⟩)]).Ag.Second)]) ⟨rfl,rfl,rfl,Af⟩ ?_
   intro w146 hw146
   have e0:Oh c h=y8:=hy8.symm
   have eC:Ez c h=(Ba [(Ae false 415 ⟨(h:Int), -1⟩),(Ae true 416 ⟨(h:Int), -1⟩),(Ae (win ((Bo c (h:Int):Nat):Int) 1 (A7 y8)) 417 ⟨(h:Int), -1⟩)]):=by unfold Ez;simp only[e0];simp[h22,h127]
   exact⟨congrArg (fun t=>Ending.returned (Value.agg (Am.arr t))) eC.symm,Bi hw146⟩
  refine Cc 0 3 [] [[o0,oF,o0]] [EF ((KO c (h:Int):Nat):Int) 1] [(1,Ac h),(AU z),(7,i6 (A7 y8)),(DL h c),(Ef h),(45,.bool false),(46,Ac h)] rfl ⟨ef,Af⟩ ?_
  refine BI 93 #[(Ac h)] (some 47) (.agg #[(Ac h),i6 (-1)]) (fun w147 hw147=>Dh w147 (h:Int)) (fun n148 (hn149:n125≤n148) => ?_)
  refine DZ [1,4,7,9,43,45,47] [(1,Ac h),(AU z),(7,i6 (A7 y8)),(DL h c),(Ef h),(45,.bool false),(KQ h)] ?_
  refine BI 62 #[.bool false,i6 416,.agg #[(Ac h),i6 (-1)]] (some 48) (.agg (Am.arr (Ae false 416 ⟨(h:Int), -1⟩))) (fun w150 hw150=>AY w150 (hL.ext (hw150.ext rfl)) false 416 (h:Int) (-1)) (fun n151 (hn152:n148≤n151) => ?_)
  refine Cc 0 2 [] [[o0,o0]] [] [(1,Ac h),(AU z),(Ef h),(IM h),(KX h c),(50,i6 (A7 y8))] rfl Af ?_
  refine BI 63 #[i6 ((Bo c (h:Int):Nat):Int),i6 1,i6 (A7 y8)] (some 51) (.bool (win ((Bo c (h:Int):Nat):Int) 1 (A7 y8))) (fun w153 hw153=>BL w153 ((Bo c (h:Int):Nat):Int) 1 (A7 y8)) (fun n154 (hn155:n151≤n154) => ?_)
  refine Cc 0 1 [] [[o0]] [] [(AU z),(Ef h),(IM h),(G8 y8 h c),(52,Ac h)] rfl Af ?_
  refine BI 93 #[(Ac h)] (some 53) (.agg #[(Ac h),i6 (-1)]) (fun w156 hw156=>Dh w156 (h:Int)) (fun n157 (hn158:n154≤n157) => ?_)
  refine DZ [4,43,48,51,53] [(AU z),(Ef h),(IM h),(G8 y8 h c),(KU h)] ?_
  refine BI 62 #[.bool (win ((Bo c (h:Int):Nat):Int) 1 (A7 y8)),i6 417,.agg #[(Ac h),i6 (-1)]] (some 54) (.agg (Am.arr (Ae (win ((Bo c (h:Int):Nat):Int) 1 (A7 y8)) 417 ⟨(h:Int), -1⟩))) (fun w159 hw159=>AY w159 (hL.ext (hw159.ext rfl)) (win ((Bo c (h:Int):Nat):Int) 1 (A7 y8)) 417 (h:Int) (-1)) (fun n160 (hn161:n157≤n160) => ?_)
  refine Gi 0 1 [] [[o0]] [] [(AU z),(55,.slice (some ⟨n160,0,none⟩) 3 3)] ⟨w,n160+1,[(Ak w),(ER c z),(GX z),(EX y8 z),(Zbb y8 h c n160)]⟩ rfl Af ?_
  refine BI 91 #[.slice (some ⟨n160,0,none⟩) 3 3] (some 56) (.agg (Am.arr (Ba [(Ae false 415 ⟨(h:Int), -1⟩),(Ae false 416 ⟨(h:Int), -1⟩),(Ae (win ((Bo c (h:Int):Nat):Int) 1 (A7 y8)) 417 ⟨(h:Int), -1⟩)]))) (fun w162 hw162=>Dp w162 (hL.ext (hw162.ext rfl)) ⟨some ⟨n160,0,none⟩,3,[(Ae false 415 ⟨(h:Int), -1⟩),(Ae false 416 ⟨(h:Int), -1⟩),(Ae (win ((Bo c (h:Int):Nat):Int) 1 (A7 y8)) 417 ⟨(h:Int), -1⟩)]⟩ (Eb hw162 (i:=4) [(Ae false 415 ⟨(h:Int), -1⟩),(Ae false 416 ⟨(h:Int), -1⟩),(Ae (win ((Bo c (h:Int):Nat):Int) 1 (A7 y8)) 417 ⟨(h:Int), -1⟩)]) (show 3≤1000 by decide)) (fun n163 (hn164:n160+1≤n163) => ?_)
  refine Gi 3 0 [] [[(an 3 2)]] [Qb (z+1),Qb (z+1),Qb (z+1)] [(AU z)] ⟨w,n163,[(Ak w),(ER c z),(UL y8 h c z),(EX y8 z),(Zbb y8 h c n160)]⟩ rfl ⟨rfl,rfl,rfl,Af⟩ ?_
  refine AO [.at 2,.at 2,.at 2] [Qb (z+1),Qb (z+1),Qb (z+1)] (.agg #[i6 ((Ba [(Ae false 415 ⟨(h:Int), -1⟩),(Ae false 416 ⟨(h:Int), -1⟩),(Ae (win ((Bo c (h:Int):Nat):Int) 1 (A7 y8)) 417 ⟨(h:Int), -1⟩)]).e),i6 ((Ba [(Ae false 415 ⟨(h:Int), -1⟩),(Ae false 416 ⟨(h:Int), -1⟩),(Ae (win ((Bo c (h:Int):Nat):Int) 1 (A7 y8)) 417 ⟨(h:Int), -1⟩)]).Ag.First),i6 ((Ba [(Ae false 415 ⟨(h:Int), -1⟩),(Ae false 416 ⟨(h:Int), -1⟩),(Ae (win ((Bo c (h:Int):Nat):Int) 1 (A7 y8)) 417 ⟨(h:Int), -1⟩)]).Ag.Second)]) ⟨rfl,rfl,rfl,Af⟩ ?_
  intro w165 hw165
  have e0:Oh c h=y8:=hy8.symm
  have eC:Ez c h=(Ba [(Ae false 415 ⟨(h:Int), -1⟩),(Ae false 416 ⟨(h:Int), -1⟩),(Ae (win ((Bo c (h:Int):Nat):Int) 1 (A7 y8)) 417 ⟨(h:Int), -1⟩)]):=by unfold Ez;simp only[e0];simp[h22,h127]
  exact⟨congrArg (fun t=>Ending.returned (Value.agg (Am.arr t))) eC.symm,Bi hw165⟩
 refine Az 3 0 [] [[o0,(a1 3),oF,o0,o0]] [Qb (z+2),EF y8.Dy 0] [(1,Ac h),(2,pt z),(AU z),(FW z),(6,.bool false),(7,i6 4)] rfl ⟨rfl,ef,Af⟩ ?_
 refine Uc (fun a w'=>∃ (n166:Nat),z+3≤n166∧St 57 [(1,Ac h),(2,pt z),(AU z),(FW z),(6,.bool (En y8)),(7,i6 (A7 y8))] [] ⟨w,n166,[(Ak w),(ER c z),(GX z),(EX y8 z)]⟩ a w') ?_ ?_
 ·refine DW ?_
  by_cases h168:(y8.Kind:Int)=2
  ·refine Az 5 2 [1] [[o0,(a1 3),oT],[o0,(a1 3)]] [Qb (z+2),ET y8.Kind 2,Qb (z+2)] [(1,Ac h),(2,pt z),(AU z),(FW z),(22,i6 y8.Dy)] rfl ⟨rfl,et,rfl,Af⟩ ?_
   refine BI 63 #[i6 y8.Dy,i6 1,i6 8] (some 23) (.bool (win y8.Dy 1 8)) (fun w169 hw169=>BL w169 y8.Dy 1 8) (fun n170 (hn171:z+3≤n170) => ?_)
   refine Cc 1 0 [] [[o0,o0]] [] [(1,Ac h),(2,pt z),(AU z),(FW z),(6,.bool (win y8.Dy 1 8)),(7,i6 1)] rfl Af ?_
   have e6:En y8=win y8.Dy 1 8:=(if_pos h168).trans (by first | rfl | exact decide_eq_true (by assumption) | exact decide_eq_false (by assumption))
   have e7:A7 y8=1:=if_pos h168
   refine BR [1,2,4,5,6,7] [(1,Ac h),(2,pt z),(AU z),(FW z),(6,.bool (win y8.Dy 1 8)),(7,i6 1)] ?_
   refine Cf (fun a w' hs=>⟨n170,by omega,(by(try dsimp only[GX,EX,ER,AU,FW]at hs ⊢);rw[e6,e7];exact hs)⟩)
  refine Az 5 0 [0] [[o0,(a1 3),oF]] [Qb (z+2),EF y8.Kind 2] [(1,Ac h),(2,pt z),(AU z),(FW z),(6,.bool false),(7,i6 4),(20,.bool false)] rfl ⟨rfl,ef,Af⟩ ?_
  have e6:En y8=false:=(if_neg h168).trans (by first | rfl | exact decide_eq_true (by assumption) | exact decide_eq_false (by assumption))
  have e7:A7 y8=4:=if_neg h168
  refine BR [1,2,4,5,6,7] [(1,Ac h),(2,pt z),(AU z),(FW z),(6,.bool false),(7,i6 4)] ?_
  refine Cf (fun a w' hs=>⟨(z+3),by omega,(by(try dsimp only[GX,EX,ER,AU,FW]at hs ⊢);rw[e6,e7];exact hs)⟩)
 rintro a w' ⟨n166,hn167,hs⟩
 refine(?_:G Tryd.prog 57 [(1,Ac h),(2,pt z),(AU z),(FW z),(6,.bool (En y8)),(7,i6 (A7 y8))] [] ⟨w,n166,[(Ak w),(ER c z),(GX z),(EX y8 z)]⟩ _ _ _) a w' hs
 clear hs a w'
 refine Az 2 2 [] [[(an 7 1),o0]] [Qb z,Qb z,Qb z,Qb z,Qb z,Qb z,Qb z] [(1,Ac h),(AU z),(FW z),(6,.bool (En y8)),(7,i6 (A7 y8)),(25,.agg (Aj.arr c)),(26,Ac h)] rfl ⟨rfl,rfl,rfl,rfl,rfl,rfl,rfl,Af⟩ ?_
 refine BI 97 #[.agg (Aj.arr c),Ac h] (some 27) (.tuple #[i6 ((KO c (h:Int):Nat):Int),i6 ((Bo c (h:Int):Nat):Int)]) (fun w172 hw172=>P8 w172 c (hc.ext (hw172.ext rfl) (fun _ h=>h)) (h:Int) hm hq) (fun n173 (hn174:n166≤n173) => ?_)
 refine Cc 4 2 [] [[o0,o0,o0,o0,o0],[o0,(a1 3)]] [Qb (z+2)] [(1,Ac h),(AU z),(FW z),(6,.bool (En y8)),(7,i6 (A7 y8)),(Gj h c),(DL h c),(31,i6 y8.Kind)] rfl ⟨rfl,Af⟩ ?_
 refine BI 63 #[i6 y8.Kind,i6 1,i6 2] (some 32) (.bool (win y8.Kind 1 2)) (fun w175 hw175=>BL w175 y8.Kind 1 2) (fun n176 (hn177:n173≤n176) => ?_)
 refine DZ [1,4,5,6,7,8,9,32] [(1,Ac h),(AU z),(FW z),(6,.bool (En y8)),(7,i6 (A7 y8)),(Gj h c),(DL h c),(32,.bool (win y8.Kind 1 2))] ?_
 by_cases h178:(win y8.Kind 1 2)=true
 ·have hd179:=H8 h178
  refine Cc 0 3 [] [[(ov (.bool true)),o0,(a1 3)]] [Value.bool (win y8.Kind 1 2)=Value.bool true,Qb (z+2)] [(1,Ac h),(AU z),(6,.bool (En y8)),(7,i6 (A7 y8)),(Gj h c),(DL h c),(33,.bool true),(35,i6 y8.Words)] rfl ⟨(congrArg Value.bool h178),rfl,Af⟩ ?_
  refine BI 63 #[i6 y8.Words,i6 1,i6 16] (some 36) (.bool (win y8.Words 1 16)) (fun w180 hw180=>BL w180 y8.Words 1 16) (fun n181 (hn182:n176≤n181) => ?_)
  refine DZ [1,4,6,7,8,9,33,36] [(1,Ac h),(AU z),(6,.bool (En y8)),(7,i6 (A7 y8)),(Gj h c),(DL h c),(33,.bool true),(36,.bool (win y8.Words 1 16))] ?_
  by_cases h183:(win y8.Words 1 16)=true
  ·have hd184:=H8 h183
   refine Cc 0 5 [] [[o0,(ov (.bool true)),o0,o0,o0]] [Value.bool (win y8.Words 1 16)=Value.bool true] [(1,Ac h),(AU z),(7,i6 (A7 y8)),(Gj h c),(DL h c),(40,.bool (En y8)),(41,Ac h)] rfl ⟨(congrArg Value.bool h183),Af⟩ ?_
   refine BI 93 #[(Ac h)] (some 42) (.agg #[(Ac h),i6 (-1)]) (fun w185 hw185=>Dh w185 (h:Int)) (fun n186 (hn187:n181≤n186) => ?_)
   refine DZ [1,4,7,8,9,40,42] [(1,Ac h),(AU z),(7,i6 (A7 y8)),(Gj h c),(DL h c),(40,.bool (En y8)),(QJ h)] ?_
   refine BI 62 #[.bool (En y8),i6 415,.agg #[(Ac h),i6 (-1)]] (some 43) (.agg (Am.arr (Ae (En y8) 415 ⟨(h:Int), -1⟩))) (fun w188 hw188=>AY w188 (hL.ext (hw188.ext rfl)) (En y8) 415 (h:Int) (-1)) (fun n189 (hn190:n186≤n189) => ?_)
   refine DZ [1,4,7,8,9,43] [(1,Ac h),(AU z),(7,i6 (A7 y8)),(Gj h c),(DL h c),(GZ y8 h)] ?_
   by_cases h191:(((KO c (h:Int):Nat):Int):Int)=1
   ·refine Cc 0 3 [] [[o0,oT,o0]] [ET ((KO c (h:Int):Nat):Int) 1] [(1,Ac h),(AU z),(7,i6 (A7 y8)),(DL h c),(GZ y8 h),(45,.bool true),(46,Ac h)] rfl ⟨et,Af⟩ ?_
    refine BI 93 #[(Ac h)] (some 47) (.agg #[(Ac h),i6 (-1)]) (fun w192 hw192=>Dh w192 (h:Int)) (fun n193 (hn194:n189≤n193) => ?_)
    refine DZ [1,4,7,9,43,45,47] [(1,Ac h),(AU z),(7,i6 (A7 y8)),(DL h c),(GZ y8 h),(45,.bool true),(KQ h)] ?_
    refine BI 62 #[.bool true,i6 416,.agg #[(Ac h),i6 (-1)]] (some 48) (.agg (Am.arr (Ae true 416 ⟨(h:Int), -1⟩))) (fun w195 hw195=>AY w195 (hL.ext (hw195.ext rfl)) true 416 (h:Int) (-1)) (fun n196 (hn197:n193≤n196) => ?_)
    refine Cc 0 2 [] [[o0,o0]] [] [(1,Ac h),(AU z),(GZ y8 h),(IL h),(KX h c),(50,i6 (A7 y8))] rfl Af ?_
    refine BI 63 #[i6 ((Bo c (h:Int):Nat):Int),i6 1,i6 (A7 y8)] (some 51) (.bool (win ((Bo c (h:Int):Nat):Int) 1 (A7 y8))) (fun w198 hw198=>BL w198 ((Bo c (h:Int):Nat):Int) 1 (A7 y8)) (fun n199 (hn200:n196≤n199) => ?_)
    refine Cc 0 1 [] [[o0]] [] [(AU z),(GZ y8 h),(IL h),(G8 y8 h c),(52,Ac h)] rfl Af ?_
    refine BI 93 #[(Ac h)] (some 53) (.agg #[(Ac h),i6 (-1)]) (fun w201 hw201=>Dh w201 (h:Int)) (fun n202 (hn203:n199≤n202) => ?_)
    refine DZ [4,43,48,51,53] [(AU z),(GZ y8 h),(IL h),(G8 y8 h c),(KU h)] ?_
    refine BI 62 #[.bool (win ((Bo c (h:Int):Nat):Int) 1 (A7 y8)),i6 417,.agg #[(Ac h),i6 (-1)]] (some 54) (.agg (Am.arr (Ae (win ((Bo c (h:Int):Nat):Int) 1 (A7 y8)) 417 ⟨(h:Int), -1⟩))) (fun w204 hw204=>AY w204 (hL.ext (hw204.ext rfl)) (win ((Bo c (h:Int):Nat):Int) 1 (A7 y8)) 417 (h:Int) (-1)) (fun n205 (hn206:n202≤n205) => ?_)
    refine Gi 0 1 [] [[o0]] [] [(AU z),(55,.slice (some ⟨n205,0,none⟩) 3 3)] ⟨w,n205+1,[(Ak w),(ER c z),(GX z),(EX y8 z),(ZaY y8 h c n205)]⟩ rfl Af ?_
    refine BI 91 #[.slice (some ⟨n205,0,none⟩) 3 3] (some 56) (.agg (Am.arr (Ba [(Ae (En y8) 415 ⟨(h:Int), -1⟩),(Ae true 416 ⟨(h:Int), -1⟩),(Ae (win ((Bo c (h:Int):Nat):Int) 1 (A7 y8)) 417 ⟨(h:Int), -1⟩)]))) (fun w207 hw207=>Dp w207 (hL.ext (hw207.ext rfl)) ⟨some ⟨n205,0,none⟩,3,[(Ae (En y8) 415 ⟨(h:Int), -1⟩),(Ae true 416 ⟨(h:Int), -1⟩),(Ae (win ((Bo c (h:Int):Nat):Int) 1 (A7 y8)) 417 ⟨(h:Int), -1⟩)]⟩ (Eb hw207 (i:=4) [(Ae (En y8) 415 ⟨(h:Int), -1⟩),(Ae true 416 ⟨(h:Int), -1⟩),(Ae (win ((Bo c (h:Int):Nat):Int) 1 (A7 y8)) 417 ⟨(h:Int), -1⟩)]) (show 3≤1000 by decide)) (fun n208 (hn209:n205+1≤n208) => ?_)
    refine Gi 3 0 [] [[(an 3 2)]] [Qb (z+1),Qb (z+1),Qb (z+1)] [(AU z)] ⟨w,n208,[(Ak w),(ER c z),(Z5 y8 h c z),(EX y8 z),(ZaY y8 h c n205)]⟩ rfl ⟨rfl,rfl,rfl,Af⟩ ?_
    refine AO [.at 2,.at 2,.at 2] [Qb (z+1),Qb (z+1),Qb (z+1)] (.agg #[i6 ((Ba [(Ae (En y8) 415 ⟨(h:Int), -1⟩),(Ae true 416 ⟨(h:Int), -1⟩),(Ae (win ((Bo c (h:Int):Nat):Int) 1 (A7 y8)) 417 ⟨(h:Int), -1⟩)]).e),i6 ((Ba [(Ae (En y8) 415 ⟨(h:Int), -1⟩),(Ae true 416 ⟨(h:Int), -1⟩),(Ae (win ((Bo c (h:Int):Nat):Int) 1 (A7 y8)) 417 ⟨(h:Int), -1⟩)]).Ag.First),i6 ((Ba [(Ae (En y8) 415 ⟨(h:Int), -1⟩),(Ae true 416 ⟨(h:Int), -1⟩),(Ae (win ((Bo c (h:Int):Nat):Int) 1 (A7 y8)) 417 ⟨(h:Int), -1⟩)]).Ag.Second)]) ⟨rfl,rfl,rfl,Af⟩ ?_
    intro w210 hw210
    have e0:Oh c h=y8:=hy8.symm
    have eC:Ez c h=(Ba [(Ae (En y8) 415 ⟨(h:Int), -1⟩),(Ae true 416 ⟨(h:Int), -1⟩),(Ae (win ((Bo c (h:Int):Nat):Int) 1 (A7 y8)) 417 ⟨(h:Int), -1⟩)]):=by unfold Ez;simp only[e0];simp[h178,h183,h191]
    exact⟨congrArg (fun t=>Ending.returned (Value.agg (Am.arr t))) eC.symm,Bi hw210⟩
   refine Cc 0 3 [] [[o0,oF,o0]] [EF ((KO c (h:Int):Nat):Int) 1] [(1,Ac h),(AU z),(7,i6 (A7 y8)),(DL h c),(GZ y8 h),(45,.bool false),(46,Ac h)] rfl ⟨ef,Af⟩ ?_
   refine BI 93 #[(Ac h)] (some 47) (.agg #[(Ac h),i6 (-1)]) (fun w211 hw211=>Dh w211 (h:Int)) (fun n212 (hn213:n189≤n212) => ?_)
   refine DZ [1,4,7,9,43,45,47] [(1,Ac h),(AU z),(7,i6 (A7 y8)),(DL h c),(GZ y8 h),(45,.bool false),(KQ h)] ?_
   refine BI 62 #[.bool false,i6 416,.agg #[(Ac h),i6 (-1)]] (some 48) (.agg (Am.arr (Ae false 416 ⟨(h:Int), -1⟩))) (fun w214 hw214=>AY w214 (hL.ext (hw214.ext rfl)) false 416 (h:Int) (-1)) (fun n215 (hn216:n212≤n215) => ?_)
   refine Cc 0 2 [] [[o0,o0]] [] [(1,Ac h),(AU z),(GZ y8 h),(IM h),(KX h c),(50,i6 (A7 y8))] rfl Af ?_
   refine BI 63 #[i6 ((Bo c (h:Int):Nat):Int),i6 1,i6 (A7 y8)] (some 51) (.bool (win ((Bo c (h:Int):Nat):Int) 1 (A7 y8))) (fun w217 hw217=>BL w217 ((Bo c (h:Int):Nat):Int) 1 (A7 y8)) (fun n218 (hn219:n215≤n218) => ?_)
   refine Cc 0 1 [] [[o0]] [] [(AU z),(GZ y8 h),(IM h),(G8 y8 h c),(52,Ac h)] rfl Af ?_
   refine BI 93 #[(Ac h)] (some 53) (.agg #[(Ac h),i6 (-1)]) (fun w220 hw220=>Dh w220 (h:Int)) (fun n221 (hn222:n218≤n221) => ?_)
   refine DZ [4,43,48,51,53] [(AU z),(GZ y8 h),(IM h),(G8 y8 h c),(KU h)] ?_
   refine BI 62 #[.bool (win ((Bo c (h:Int):Nat):Int) 1 (A7 y8)),i6 417,.agg #[(Ac h),i6 (-1)]] (some 54) (.agg (Am.arr (Ae (win ((Bo c (h:Int):Nat):Int) 1 (A7 y8)) 417 ⟨(h:Int), -1⟩))) (fun w223 hw223=>AY w223 (hL.ext (hw223.ext rfl)) (win ((Bo c (h:Int):Nat):Int) 1 (A7 y8)) 417 (h:Int) (-1)) (fun n224 (hn225:n221≤n224) => ?_)
   refine Gi 0 1 [] [[o0]] [] [(AU z),(55,.slice (some ⟨n224,0,none⟩) 3 3)] ⟨w,n224+1,[(Ak w),(ER c z),(GX z),(EX y8 z),(Zbc n224 y8 h c)]⟩ rfl Af ?_
   refine BI 91 #[.slice (some ⟨n224,0,none⟩) 3 3] (some 56) (.agg (Am.arr (Ba [(Ae (En y8) 415 ⟨(h:Int), -1⟩),(Ae false 416 ⟨(h:Int), -1⟩),(Ae (win ((Bo c (h:Int):Nat):Int) 1 (A7 y8)) 417 ⟨(h:Int), -1⟩)]))) (fun w226 hw226=>Dp w226 (hL.ext (hw226.ext rfl)) ⟨some ⟨n224,0,none⟩,3,[(Ae (En y8) 415 ⟨(h:Int), -1⟩),(Ae false 416 ⟨(h:Int), -1⟩),(Ae (win ((Bo c (h:Int):Nat):Int) 1 (A7 y8)) 417 ⟨(h:Int), -1⟩)]⟩ (Eb hw226 (i:=4) [(Ae (En y8) 415 ⟨(h:Int), -1⟩),(Ae false 416 ⟨(h:Int), -1⟩),(Ae (win ((Bo c (h:Int):Nat):Int) 1 (A7 y8)) 417 ⟨(h:Int), -1⟩)]) (show 3≤1000 by decide)) (fun n227 (hn228:n224+1≤n227) => ?_)
   refine Gi 3 0 [] [[(an 3 2)]] [Qb (z+1),Qb (z+1),Qb (z+1)] [(AU z)] ⟨w,n227,[(Ak w),(ER c z),(Zx y8 h c z),(EX y8 z),(Zbc n224 y8 h c)]⟩ rfl ⟨rfl,rfl,rfl,Af⟩ ?_
   refine AO [.at 2,.at 2,.at 2] [Qb (z+1),Qb (z+1),Qb (z+1)] (.agg #[i6 ((Ba [(Ae (En y8) 415 ⟨(h:Int), -1⟩),(Ae false 416 ⟨(h:Int), -1⟩),(Ae (win ((Bo c (h:Int):Nat):Int) 1 (A7 y8)) 417 ⟨(h:Int), -1⟩)]).e),i6 ((Ba [(Ae (En y8) 415 ⟨(h:Int), -1⟩),(Ae false 416 ⟨(h:Int), -1⟩),(Ae (win ((Bo c (h:Int):Nat):Int) 1 (A7 y8)) 417 ⟨(h:Int), -1⟩)]).Ag.First),i6 ((Ba [(Ae (En y8) 415 ⟨(h:Int), -1⟩),(Ae false 416 ⟨(h:Int), -1⟩),(Ae (win ((Bo c (h:Int):Nat):Int) 1 (A7 y8)) 417 ⟨(h:Int), -1⟩)]).Ag.Second)]) ⟨rfl,rfl,rfl,Af⟩ ?_
   intro w229 hw229
   have e0:Oh c h=y8:=hy8.symm
   have eC:Ez c h=(Ba [(Ae (En y8) 415 ⟨(h:Int), -1⟩),(Ae false 416 ⟨(h:Int), -1⟩),(Ae (win ((Bo c (h:Int):Nat):Int) 1 (A7 y8)) 417 ⟨(h:Int), -1⟩)]):=by unfold Ez;simp only[e0];simp[h178,h183,h191]
   exact⟨congrArg (fun t=>Ending.returned (Value.agg (Am.arr t))) eC.symm,Bi hw229⟩
  have hd230:=Ko h183
  refine Cc 0 5 [] [[o0,(ov (.bool false)),o0,o0]] [Value.bool (win y8.Words 1 16)=Value.bool false] [(1,Ac h),(AU z),(7,i6 (A7 y8)),(Gj h c),(DL h c),(40,.bool false),(41,Ac h)] rfl ⟨(congrArg Value.bool (Bool.eq_false_iff.2 h183)),Af⟩ ?_
  refine BI 93 #[(Ac h)] (some 42) (.agg #[(Ac h),i6 (-1)]) (fun w231 hw231=>Dh w231 (h:Int)) (fun n232 (hn233:n181≤n232) => ?_)
  refine DZ [1,4,7,8,9,40,42] [(1,Ac h),(AU z),(7,i6 (A7 y8)),(Gj h c),(DL h c),(40,.bool false),(QJ h)] ?_
  refine BI 62 #[.bool false,i6 415,.agg #[(Ac h),i6 (-1)]] (some 43) (.agg (Am.arr (Ae false 415 ⟨(h:Int), -1⟩))) (fun w234 hw234=>AY w234 (hL.ext (hw234.ext rfl)) false 415 (h:Int) (-1)) (fun n235 (hn236:n232≤n235) => ?_)
  refine DZ [1,4,7,8,9,43] [(1,Ac h),(AU z),(7,i6 (A7 y8)),(Gj h c),(DL h c),(Ef h)] ?_
  by_cases h237:(((KO c (h:Int):Nat):Int):Int)=1
  ·refine Cc 0 3 [] [[o0,oT,o0]] [ET ((KO c (h:Int):Nat):Int) 1] [(1,Ac h),(AU z),(7,i6 (A7 y8)),(DL h c),(Ef h),(45,.bool true),(46,Ac h)] rfl ⟨et,Af⟩ ?_
   refine BI 93 #[(Ac h)] (some 47) (.agg #[(Ac h),i6 (-1)]) (fun w238 hw238=>Dh w238 (h:Int)) (fun n239 (hn240:n235≤n239) => ?_)
   refine DZ [1,4,7,9,43,45,47] [(1,Ac h),(AU z),(7,i6 (A7 y8)),(DL h c),(Ef h),(45,.bool true),(KQ h)] ?_
   refine BI 62 #[.bool true,i6 416,.agg #[(Ac h),i6 (-1)]] (some 48) (.agg (Am.arr (Ae true 416 ⟨(h:Int), -1⟩))) (fun w241 hw241=>AY w241 (hL.ext (hw241.ext rfl)) true 416 (h:Int) (-1)) (fun n242 (hn243:n239≤n242) => ?_)
   refine Cc 0 2 [] [[o0,o0]] [] [(1,Ac h),(AU z),(Ef h),(IL h),(KX h c),(50,i6 (A7 y8))] rfl Af ?_
   refine BI 63 #[i6 ((Bo c (h:Int):Nat):Int),i6 1,i6 (A7 y8)] (some 51) (.bool (win ((Bo c (h:Int):Nat):Int) 1 (A7 y8))) (fun w244 hw244=>BL w244 ((Bo c (h:Int):Nat):Int) 1 (A7 y8)) (fun n245 (hn246:n242≤n245) => ?_)
   refine Cc 0 1 [] [[o0]] [] [(AU z),(Ef h),(IL h),(G8 y8 h c),(52,Ac h)] rfl Af ?_
   refine BI 93 #[(Ac h)] (some 53) (.agg #[(Ac h),i6 (-1)]) (fun w247 hw247=>Dh w247 (h:Int)) (fun n248 (hn249:n245≤n248) => ?_)
   refine DZ [4,43,48,51,53] [(AU z),(Ef h),(IL h),(G8 y8 h c),(KU h)] ?_
   refine BI 62 #[.bool (win ((Bo c (h:Int):Nat):Int) 1 (A7 y8)),i6 417,.agg #[(Ac h),i6 (-1)]] (some 54) (.agg (Am.arr (Ae (win ((Bo c (h:Int):Nat):Int) 1 (A7 y8)) 417 ⟨(h:Int), -1⟩))) (fun w250 hw250=>AY w250 (hL.ext (hw250.ext rfl)) (win ((Bo c (h:Int):Nat):Int) 1 (A7 y8)) 417 (h:Int) (-1)) (fun n251 (hn252:n248≤n251) => ?_)
   refine Gi 0 1 [] [[o0]] [] [(AU z),(55,.slice (some ⟨n251,0,none⟩) 3 3)] ⟨w,n251+1,[(Ak w),(ER c z),(GX z),(EX y8 z),(ZaP y8 h c n251)]⟩ rfl Af ?_
   refine BI 91 #[.slice (some ⟨n251,0,none⟩) 3 3] (some 56) (.agg (Am.arr (Ba [(Ae false 415 ⟨(h:Int), -1⟩),(Ae true 416 ⟨(h:Int), -1⟩),(Ae (win ((Bo c (h:Int):Nat):Int) 1 (A7 y8)) 417 ⟨(h:Int), -1⟩)]))) (fun w253 hw253=>Dp w253 (hL.ext (hw253.ext rfl)) ⟨some ⟨n251,0,none⟩,3,[(Ae false 415 ⟨(h:Int), -1⟩),(Ae true 416 ⟨(h:Int), -1⟩),(Ae (win ((Bo c (h:Int):Nat):Int) 1 (A7 y8)) 417 ⟨(h:Int), -1⟩)]⟩ (Eb hw253 (i:=4) [(Ae false 415 ⟨(h:Int), -1⟩),(Ae true 416 ⟨(h:Int), -1⟩),(Ae (win ((Bo c (h:Int):Nat):Int) 1 (A7 y8)) 417 ⟨(h:Int), -1⟩)]) (show 3≤1000 by decide)) (fun n254 (hn255:n251+1≤n254) => ?_)
   refine Gi 3 0 [] [[(an 3 2)]] [Qb (z+1),Qb (z+1),Qb (z+1)] [(AU z)] ⟨w,n254,[(Ak w),(ER c z),(Vm y8 h c z),(EX y8 z),(ZaP y8 h c n251)]⟩ rfl ⟨rfl,rfl,rfl,Af⟩ ?_
   refine AO [.at 2,.at 2,.at 2] [Qb (z+1),Qb (z+1),Qb (z+1)] (.agg #[i6 ((Ba [(Ae false 415 ⟨(h:Int), -1⟩),(Ae true 416 ⟨(h:Int), -1⟩),(Ae (win ((Bo c (h:Int):Nat):Int) 1 (A7 y8)) 417 ⟨(h:Int), -1⟩)]).e),i6 ((Ba [(Ae false 415 ⟨(h:Int), -1⟩),(Ae true 416 ⟨(h:Int), -1⟩),(Ae (win ((Bo c (h:Int):Nat):Int) 1 (A7 y8)) 417 ⟨(h:Int), -1⟩)]).Ag.First),i6 ((Ba [(Ae false 415 ⟨(h:Int), -1⟩),(Ae true 416 ⟨(h:Int), -1⟩),(Ae (win ((Bo c (h:Int):Nat):Int) 1 (A7 y8)) 417 ⟨(h:Int), -1⟩)]).Ag.Second)]) ⟨rfl,rfl,rfl,Af⟩ ?_
   intro w256 hw256
   have e0:Oh c h=y8:=hy8.symm
   have eC:Ez c h=(Ba [(Ae false 415 ⟨(h:Int), -1⟩),(Ae true 416 ⟨(h:Int), -1⟩),(Ae (win ((Bo c (h:Int):Nat):Int) 1 (A7 y8)) 417 ⟨(h:Int), -1⟩)]):=by unfold Ez;simp only[e0];simp[h178,h183,h237]
   exact⟨congrArg (fun t=>Ending.returned (Value.agg (Am.arr t))) eC.symm,Bi hw256⟩
  refine Cc 0 3 [] [[o0,oF,o0]] [EF ((KO c (h:Int):Nat):Int) 1] [(1,Ac h),(AU z),(7,i6 (A7 y8)),(DL h c),(Ef h),(45,.bool false),(46,Ac h)] rfl ⟨ef,Af⟩ ?_
  refine BI 93 #[(Ac h)] (some 47) (.agg #[(Ac h),i6 (-1)]) (fun w257 hw257=>Dh w257 (h:Int)) (fun n258 (hn259:n235≤n258) => ?_)
  refine DZ [1,4,7,9,43,45,47] [(1,Ac h),(AU z),(7,i6 (A7 y8)),(DL h c),(Ef h),(45,.bool false),(KQ h)] ?_
  refine BI 62 #[.bool false,i6 416,.agg #[(Ac h),i6 (-1)]] (some 48) (.agg (Am.arr (Ae false 416 ⟨(h:Int), -1⟩))) (fun w260 hw260=>AY w260 (hL.ext (hw260.ext rfl)) false 416 (h:Int) (-1)) (fun n261 (hn262:n258≤n261) => ?_)
  refine Cc 0 2 [] [[o0,o0]] [] [(1,Ac h),(AU z),(Ef h),(IM h),(KX h c),(50,i6 (A7 y8))] rfl Af ?_
  refine BI 63 #[i6 ((Bo c (h:Int):Nat):Int),i6 1,i6 (A7 y8)] (some 51) (.bool (win ((Bo c (h:Int):Nat):Int) 1 (A7 y8))) (fun w263 hw263=>BL w263 ((Bo c (h:Int):Nat):Int) 1 (A7 y8)) (fun n264 (hn265:n261≤n264) => ?_)
  refine Cc 0 1 [] [[o0]] [] [(AU z),(Ef h),(IM h),(G8 y8 h c),(52,Ac h)] rfl Af ?_
  refine BI 93 #[(Ac h)] (some 53) (.agg #[(Ac h),i6 (-1)]) (fun w266 hw266=>Dh w266 (h:Int)) (fun n267 (hn268:n264≤n267) => ?_)
  refine DZ [4,43,48,51,53] [(AU z),(Ef h),(IM h),(G8 y8 h c),(KU h)] ?_
  refine BI 62 #[.bool (win ((Bo c (h:Int):Nat):Int) 1 (A7 y8)),i6 417,.agg #[(Ac h),i6 (-1)]] (some 54) (.agg (Am.arr (Ae (win ((Bo c (h:Int):Nat):Int) 1 (A7 y8)) 417 ⟨(h:Int), -1⟩))) (fun w269 hw269=>AY w269 (hL.ext (hw269.ext rfl)) (win ((Bo c (h:Int):Nat):Int) 1 (A7 y8)) 417 (h:Int) (-1)) (fun n270 (hn271:n267≤n270) => ?_)
  refine Gi 0 1 [] [[o0]] [] [(AU z),(55,.slice (some ⟨n270,0,none⟩) 3 3)] ⟨w,n270+1,[(Ak w),(ER c z),(GX z),(EX y8 z),(Za8 y8 h c n270)]⟩ rfl Af ?_
  refine BI 91 #[.slice (some ⟨n270,0,none⟩) 3 3] (some 56) (.agg (Am.arr (Ba [(Ae false 415 ⟨(h:Int), -1⟩),(Ae false 416 ⟨(h:Int), -1⟩),(Ae (win ((Bo c (h:Int):Nat):Int) 1 (A7 y8)) 417 ⟨(h:Int), -1⟩)]))) (fun w272 hw272=>Dp w272 (hL.ext (hw272.ext rfl)) ⟨some ⟨n270,0,none⟩,3,[(Ae false 415 ⟨(h:Int), -1⟩),(Ae false 416 ⟨(h:Int), -1⟩),(Ae (win ((Bo c (h:Int):Nat):Int) 1 (A7 y8)) 417 ⟨(h:Int), -1⟩)]⟩ (Eb hw272 (i:=4) [(Ae false 415 ⟨(h:Int), -1⟩),(Ae false 416 ⟨(h:Int), -1⟩),(Ae (win ((Bo c (h:Int):Nat):Int) 1 (A7 y8)) 417 ⟨(h:Int), -1⟩)]) (show 3≤1000 by decide)) (fun n273 (hn274:n270+1≤n273) => ?_)
  refine Gi 3 0 [] [[(an 3 2)]] [Qb (z+1),Qb (z+1),Qb (z+1)] [(AU z)] ⟨w,n273,[(Ak w),(ER c z),(UL y8 h c z),(EX y8 z),(Za8 y8 h c n270)]⟩ rfl ⟨rfl,rfl,rfl,Af⟩ ?_
  refine AO [.at 2,.at 2,.at 2] [Qb (z+1),Qb (z+1),Qb (z+1)] (.agg #[i6 ((Ba [(Ae false 415 ⟨(h:Int), -1⟩),(Ae false 416 ⟨(h:Int), -1⟩),(Ae (win ((Bo c (h:Int):Nat):Int) 1 (A7 y8)) 417 ⟨(h:Int), -1⟩)]).e),i6 ((Ba [(Ae false 415 ⟨(h:Int), -1⟩),(Ae false 416 ⟨(h:Int), -1⟩),(Ae (win ((Bo c (h:Int):Nat):Int) 1 (A7 y8)) 417 ⟨(h:Int), -1⟩)]).Ag.First),i6 ((Ba [(Ae false 415 ⟨(h:Int), -1⟩),(Ae false 416 ⟨(h:Int), -1⟩),(Ae (win ((Bo c (h:Int):Nat):Int) 1 (A7 y8)) 417 ⟨(h:Int), -1⟩)]).Ag.Second)]) ⟨rfl,rfl,rfl,Af⟩ ?_
  intro w275 hw275
  have e0:Oh c h=y8:=hy8.symm
  have eC:Ez c h=(Ba [(Ae false 415 ⟨(h:Int), -1⟩),(Ae false 416 ⟨(h:Int), -1⟩),(Ae (win ((Bo c (h:Int):Nat):Int) 1 (A7 y8)) 417 ⟨(h:Int), -1⟩)]):=by unfold Ez;simp only[e0];simp[h178,h183,h237]
  exact⟨congrArg (fun t=>Ending.returned (Value.agg (Am.arr t))) eC.symm,Bi hw275⟩
 have hd276:=Ko h178
 refine Cc 0 9 [] [[(ov (.bool false)),o0,o0,o0,o0]] [Value.bool (win y8.Kind 1 2)=Value.bool false] [(1,Ac h),(AU z),(7,i6 (A7 y8)),(Gj h c),(DL h c),(40,.bool false),(41,Ac h)] rfl ⟨(congrArg Value.bool (Bool.eq_false_iff.2 h178)),Af⟩ ?_
 refine BI 93 #[(Ac h)] (some 42) (.agg #[(Ac h),i6 (-1)]) (fun w277 hw277=>Dh w277 (h:Int)) (fun n278 (hn279:n176≤n278) => ?_)
 refine DZ [1,4,7,8,9,40,42] [(1,Ac h),(AU z),(7,i6 (A7 y8)),(Gj h c),(DL h c),(40,.bool false),(QJ h)] ?_
 refine BI 62 #[.bool false,i6 415,.agg #[(Ac h),i6 (-1)]] (some 43) (.agg (Am.arr (Ae false 415 ⟨(h:Int), -1⟩))) (fun w280 hw280=>AY w280 (hL.ext (hw280.ext rfl)) false 415 (h:Int) (-1)) (fun n281 (hn282:n278≤n281) => ?_)
 refine DZ [1,4,7,8,9,43] [(1,Ac h),(AU z),(7,i6 (A7 y8)),(Gj h c),(DL h c),(Ef h)] ?_
 by_cases h283:(((KO c (h:Int):Nat):Int):Int)=1
 ·refine Cc 0 3 [] [[o0,oT,o0]] [ET ((KO c (h:Int):Nat):Int) 1] [(1,Ac h),(AU z),(7,i6 (A7 y8)),(DL h c),(Ef h),(45,.bool true),(46,Ac h)] rfl ⟨et,Af⟩ ?_
  refine BI 93 #[(Ac h)] (some 47) (.agg #[(Ac h),i6 (-1)]) (fun w284 hw284=>Dh w284 (h:Int)) (fun n285 (hn286:n281≤n285) => ?_)
  refine DZ [1,4,7,9,43,45,47] [(1,Ac h),(AU z),(7,i6 (A7 y8)),(DL h c),(Ef h),(45,.bool true),(KQ h)] ?_
  refine BI 62 #[.bool true,i6 416,.agg #[(Ac h),i6 (-1)]] (some 48) (.agg (Am.arr (Ae true 416 ⟨(h:Int), -1⟩))) (fun w287 hw287=>AY w287 (hL.ext (hw287.ext rfl)) true 416 (h:Int) (-1)) (fun n288 (hn289:n285≤n288) => ?_)
  refine Cc 0 2 [] [[o0,o0]] [] [(1,Ac h),(AU z),(Ef h),(IL h),(KX h c),(50,i6 (A7 y8))] rfl Af ?_
  refine BI 63 #[i6 ((Bo c (h:Int):Nat):Int),i6 1,i6 (A7 y8)] (some 51) (.bool (win ((Bo c (h:Int):Nat):Int) 1 (A7 y8))) (fun w290 hw290=>BL w290 ((Bo c (h:Int):Nat):Int) 1 (A7 y8)) (fun n291 (hn292:n288≤n291) => ?_)
  refine Cc 0 1 [] [[o0]] [] [(AU z),(Ef h),(IL h),(G8 y8 h c),(52,Ac h)] rfl Af ?_
  refine BI 93 #[(Ac h)] (some 53) (.agg #[(Ac h),i6 (-1)]) (fun w293 hw293=>Dh w293 (h:Int)) (fun n294 (hn295:n291≤n294) => ?_)
  refine DZ [4,43,48,51,53] [(AU z),(Ef h),(IL h),(G8 y8 h c),(KU h)] ?_
  refine BI 62 #[.bool (win ((Bo c (h:Int):Nat):Int) 1 (A7 y8)),i6 417,.agg #[(Ac h),i6 (-1)]] (some 54) (.agg (Am.arr (Ae (win ((Bo c (h:Int):Nat):Int) 1 (A7 y8)) 417 ⟨(h:Int), -1⟩))) (fun w296 hw296=>AY w296 (hL.ext (hw296.ext rfl)) (win ((Bo c (h:Int):Nat):Int) 1 (A7 y8)) 417 (h:Int) (-1)) (fun n297 (hn298:n294≤n297) => ?_)
  refine Gi 0 1 [] [[o0]] [] [(AU z),(55,.slice (some ⟨n297,0,none⟩) 3 3)] ⟨w,n297+1,[(Ak w),(ER c z),(GX z),(EX y8 z),(ZH y8 h c n297)]⟩ rfl Af ?_
  refine BI 91 #[.slice (some ⟨n297,0,none⟩) 3 3] (some 56) (.agg (Am.arr (Ba [(Ae false 415 ⟨(h:Int), -1⟩),(Ae true 416 ⟨(h:Int), -1⟩),(Ae (win ((Bo c (h:Int):Nat):Int) 1 (A7 y8)) 417 ⟨(h:Int), -1⟩)]))) (fun w299 hw299=>Dp w299 (hL.ext (hw299.ext rfl)) ⟨some ⟨n297,0,none⟩,3,[(Ae false 415 ⟨(h:Int), -1⟩),(Ae true 416 ⟨(h:Int), -1⟩),(Ae (win ((Bo c (h:Int):Nat):Int) 1 (A7 y8)) 417 ⟨(h:Int), -1⟩)]⟩ (Eb hw299 (i:=4) [(Ae false 415 ⟨(h:Int), -1⟩),(Ae true 416 ⟨(h:Int), -1⟩),(Ae (win ((Bo c (h:Int):Nat):Int) 1 (A7 y8)) 417 ⟨(h:Int), -1⟩)]) (show 3≤1000 by decide)) (fun n300 (hn301:n297+1≤n300) => ?_)
  refine Gi 3 0 [] [[(an 3 2)]] [Qb (z+1),Qb (z+1),Qb (z+1)] [(AU z)] ⟨w,n300,[(Ak w),(ER c z),(Vm y8 h c z),(EX y8 z),(ZH y8 h c n297)]⟩ rfl ⟨rfl,rfl,rfl,Af⟩ ?_
  refine AO [.at 2,.at 2,.at 2] [Qb (z+1),Qb (z+1),Qb (z+1)] (.agg #[i6 ((Ba [(Ae false 415 ⟨(h:Int), -1⟩),(Ae true 416 ⟨(h:Int), -1⟩),(Ae (win ((Bo c (h:Int):Nat):Int) 1 (A7 y8)) 417 ⟨(h:Int), -1⟩)]).e),i6 ((Ba [(Ae false 415 ⟨(h:Int), -1⟩),(Ae true 416 ⟨(h:Int), -1⟩),(Ae (win ((Bo c (h:Int):Nat):Int) 1 (A7 y8)) 417 ⟨(h:Int), -1⟩)]).Ag.First),i6 ((Ba [(Ae false 415 ⟨(h:Int), -1⟩),(Ae true 416 ⟨(h:Int), -1⟩),(Ae (win ((Bo c (h:Int):Nat):Int) 1 (A7 y8)) 417 ⟨(h:Int), -1⟩)]).Ag.Second)]) ⟨rfl,rfl,rfl,Af⟩ ?_
  intro w302 hw302
  have e0:Oh c h=y8:=hy8.symm
  have eC:Ez c h=(Ba [(Ae false 415 ⟨(h:Int), -1⟩),(Ae true 416 ⟨(h:Int), -1⟩),(Ae (win ((Bo c (h:Int):Nat):Int) 1 (A7 y8)) 417 ⟨(h:Int), -1⟩)]):=by unfold Ez;simp only[e0];simp[h178,h283]
  exact⟨congrArg (fun t=>Ending.returned (Value.agg (Am.arr t))) eC.symm,Bi hw302⟩
 refine Cc 0 3 [] [[o0,oF,o0]] [EF ((KO c (h:Int):Nat):Int) 1] [(1,Ac h),(AU z),(7,i6 (A7 y8)),(DL h c),(Ef h),(45,.bool false),(46,Ac h)] rfl ⟨ef,Af⟩ ?_
 refine BI 93 #[(Ac h)] (some 47) (.agg #[(Ac h),i6 (-1)]) (fun w303 hw303=>Dh w303 (h:Int)) (fun n304 (hn305:n281≤n304) => ?_)
 refine DZ [1,4,7,9,43,45,47] [(1,Ac h),(AU z),(7,i6 (A7 y8)),(DL h c),(Ef h),(45,.bool false),(KQ h)] ?_
 refine BI 62 #[.bool false,i6 416,.agg #[(Ac h),i6 (-1)]] (some 48) (.agg (Am.arr (Ae false 416 ⟨(h:Int), -1⟩))) (fun w306 hw306=>AY w306 (hL.ext (hw306.ext rfl)) false 416 (h:Int) (-1)) (fun n307 (hn308:n304≤n307) => ?_)
 refine Cc 0 2 [] [[o0,o0]] [] [(1,Ac h),(AU z),(Ef h),(IM h),(KX h c),(50,i6 (A7 y8))] rfl Af ?_
 refine BI 63 #[i6 ((Bo c (h:Int):Nat):Int),i6 1,i6 (A7 y8)] (some 51) (.bool (win ((Bo c (h:Int):Nat):Int) 1 (A7 y8))) (fun w309 hw309=>BL w309 ((Bo c (h:Int):Nat):Int) 1 (A7 y8)) (fun n310 (hn311:n307≤n310) => ?_)
 refine Cc 0 1 [] [[o0]] [] [(AU z),(Ef h),(IM h),(G8 y8 h c),(52,Ac h)] rfl Af ?_
 refine BI 93 #[(Ac h)] (some 53) (.agg #[(Ac h),i6 (-1)]) (fun w312 hw312=>Dh w312 (h:Int)) (fun n313 (hn314:n310≤n313) => ?_)
 refine DZ [4,43,48,51,53] [(AU z),(Ef h),(IM h),(G8 y8 h c),(KU h)] ?_
 refine BI 62 #[.bool (win ((Bo c (h:Int):Nat):Int) 1 (A7 y8)),i6 417,.agg #[(Ac h),i6 (-1)]] (some 54) (.agg (Am.arr (Ae (win ((Bo c (h:Int):Nat):Int) 1 (A7 y8)) 417 ⟨(h:Int), -1⟩))) (fun w315 hw315=>AY w315 (hL.ext (hw315.ext rfl)) (win ((Bo c (h:Int):Nat):Int) 1 (A7 y8)) 417 (h:Int) (-1)) (fun n316 (hn317:n313≤n316) => ?_)
 refine Gi 0 1 [] [[o0]] [] [(AU z),(55,.slice (some ⟨n316,0,none⟩) 3 3)] ⟨w,n316+1,[(Ak w),(ER c z),(GX z),(EX y8 z),(ZaR y8 h c n316)]⟩ rfl Af ?_
 refine BI 91 #[.slice (some ⟨n316,0,none⟩) 3 3] (some 56) (.agg (Am.arr (Ba [(Ae false 415 ⟨(h:Int), -1⟩),(Ae false 416 ⟨(h:Int), -1⟩),(Ae (win ((Bo c (h:Int):Nat):Int) 1 (A7 y8)) 417 ⟨(h:Int), -1⟩)]))) (fun w318 hw318=>Dp w318 (hL.ext (hw318.ext rfl)) ⟨some ⟨n316,0,none⟩,3,[(Ae false 415 ⟨(h:Int), -1⟩),(Ae false 416 ⟨(h:Int), -1⟩),(Ae (win ((Bo c (h:Int):Nat):Int) 1 (A7 y8)) 417 ⟨(h:Int), -1⟩)]⟩ (Eb hw318 (i:=4) [(Ae false 415 ⟨(h:Int), -1⟩),(Ae false 416 ⟨(h:Int), -1⟩),(Ae (win ((Bo c (h:Int):Nat):Int) 1 (A7 y8)) 417 ⟨(h:Int), -1⟩)]) (show 3≤1000 by decide)) (fun n319 (hn320:n316+1≤n319) => ?_)
 refine Gi 3 0 [] [[(an 3 2)]] [Qb (z+1),Qb (z+1),Qb (z+1)] [(AU z)] ⟨w,n319,[(Ak w),(ER c z),(UL y8 h c z),(EX y8 z),(ZaR y8 h c n316)]⟩ rfl ⟨rfl,rfl,rfl,Af⟩ ?_
 refine AO [.at 2,.at 2,.at 2] [Qb (z+1),Qb (z+1),Qb (z+1)] (.agg #[i6 ((Ba [(Ae false 415 ⟨(h:Int), -1⟩),(Ae false 416 ⟨(h:Int), -1⟩),(Ae (win ((Bo c (h:Int):Nat):Int) 1 (A7 y8)) 417 ⟨(h:Int), -1⟩)]).e),i6 ((Ba [(Ae false 415 ⟨(h:Int), -1⟩),(Ae false 416 ⟨(h:Int), -1⟩),(Ae (win ((Bo c (h:Int):Nat):Int) 1 (A7 y8)) 417 ⟨(h:Int), -1⟩)]).Ag.First),i6 ((Ba [(Ae false 415 ⟨(h:Int), -1⟩),(Ae false 416 ⟨(h:Int), -1⟩),(Ae (win ((Bo c (h:Int):Nat):Int) 1 (A7 y8)) 417 ⟨(h:Int), -1⟩)]).Ag.Second)]) ⟨rfl,rfl,rfl,Af⟩ ?_
 intro w321 hw321
 have e0:Oh c h=y8:=hy8.symm
 have eC:Ez c h=(Ba [(Ae false 415 ⟨(h:Int), -1⟩),(Ae false 416 ⟨(h:Int), -1⟩),(Ae (win ((Bo c (h:Int):Nat):Int) 1 (A7 y8)) 417 ⟨(h:Int), -1⟩)]):=by unfold Ez;simp only[e0];simp[h178,h283]
 exact⟨congrArg (fun t=>Ending.returned (Value.agg (Am.arr t))) eC.symm,Bi hw321⟩
end Go.Proofs.YtjdmhijaanmccaaDoor.Ad
