/- Packed: Ad, Ae, Af. No conditions. -/
import Derived.Test.YtjdmhijaanmccaaDoorPk1
set_option maxHeartbeats 4000000
namespace Go.Proofs.YtjdmhijaanmccaaDoor.Ad
open Go Go.Proofs.YtjdmhijaanmccaaDoor.Eng Go.Proofs.YtjdmhijaanmccaaDoor.Mem Go.Proofs.YtjdmhijaanmccaaDoor.Ly
set_option linter.unusedSimpArgs false
set_option linter.unusedVariables false
set_option maxRecDepth 100000
def Bd(g:BJ):Prop:=(0≤g.C9∧g.C9≤255)∧(1≤g.BG∧g.BG≤256)∧(0≤g.Frame∧g.Frame≤1024)
def L9(c:Aj)(g:BJ):Bool:=win g.C9 0 255&&win g.BG 1 (256 - g.C9)&&decide (0≤g.Frame)&&decide (g.BG≤c.Frames - g.Frame)&&win g.IB 1 7
def Qk(c:Aj)(p k i:Nat):Bool:=meet (Dk c p k).C9 (Dk c p k).BG (Dk c p i).C9 (Dk c p i).BG
def S9(c:Aj)(p k q n:Nat):Bool:=(decide (q<p)||decide (n<k))&&meet (Dk c p k).Frame (Dk c p k).BG (Dk c q n).Frame (Dk c q n).BG
def Vd(c:Aj)(p k q:Nat):Bool:=(List.range (ES c q).Ah.xs.length).any (S9 c p k q)
def Fe(c:Aj)(p k:Nat):Ai:=if L9 c (Dk c p k)=false then⟨409,⟨p,k⟩⟩else if(List.range k).any (Qk c p k)=true then⟨410,⟨p,k⟩⟩else if(List.range (p+1)).any (Vd c p k)=true then⟨411,⟨p,k⟩⟩else BU
theorem QH{c:Aj}{p k:Nat}(h:L9 c (Dk c p k)=false):Fe c p k=⟨409,⟨p,k⟩⟩:=by unfold Fe;rw[if_pos h]
theorem YR{c:Aj}{p k:Nat}(h:L9 c (Dk c p k)=true)(h2:(List.range k).any (Qk c p k)=true):Fe c p k=⟨410,⟨p,k⟩⟩:=by unfold Fe;rw[if_neg (by simp[h]),if_pos h2]
theorem WE{c:Aj}{p k:Nat}(h:L9 c (Dk c p k)=true)(h2:(List.range k).any (Qk c p k)=false)(h3:(List.range (p+1)).any (Vd c p k)=true):Fe c p k=⟨411,⟨p,k⟩⟩:=by unfold Fe;rw[if_neg (by simp[h]),if_neg (by simp[h2]),if_pos h3]
theorem regQ_d{c:Aj}{p k:Nat}(h:L9 c (Dk c p k)=true)(h2:(List.range k).any (Qk c p k)=false)(h3:(List.range (p+1)).any (Vd c p k)=false):Fe c p k=BU:=by unfold Fe;rw[if_neg (by simp[h]),if_neg (by simp[h2]),if_neg (by simp[h3])]
theorem XP{c:Aj}{g:BJ}(hF:c.Frames≤1024)(h:L9 c g=true):Bd g:=by
 unfold L9 win at h;simp at h;unfold Bd;omega
theorem Si{c:Aj}{p k:Nat}(h:Fe c p k=BU):L9 c (Dk c p k)=true:=by
 by_cases hb:L9 c (Dk c p k)=false
 ·rw[QH hb]at h;exact absurd (congrArg Ai.e h) (by decide:¬ (409:Int)=0)
 simpa using hb
section
variable (z p k:Nat)(y16:BJ)(n58:Nat)(y62:Ar)(c:Aj)(b66 o67:Nat)(b1 o2:Nat)(b9 o10:Nat)(y8:Ar)(n:Nat)(w:World)
abbrev Sm:=bk (z+1) #[i6 409,Ac p,Ac k] 111
abbrev J4:=bk (z+1) #[i6 0,i6 0,i6 0] 111
abbrev GU:=bk (z+2) (BJ.arr y16) 103
abbrev Ph:=bk n58 (Ar.arr y62) 52
abbrev GK:=bk z (Aj.arr c) 26
abbrev Ku:CO:=(100,.slice (some ⟨b66,o67,none⟩) y62.Ah.xs.length y62.Ah.cap)
abbrev FZ:CO:=(92,.slice (some ⟨b1,o2,none⟩) (p+1 - 0) (c.Aa.cap - 0))
abbrev MC:CO:=(100,.slice y62.Ah.a y62.Ah.xs.length y62.Ah.cap)
abbrev Ld:CO:=(68,.slice (some ⟨b9,o10,none⟩) (k - 0) (y8.Ah.cap - 0))
abbrev H8:=(101,Ac y62.Ah.xs.length)
abbrev Fq:=(93,i6 ((p+1 - 0:Nat):Int))
abbrev MN:=(102,i6 ((n+1:Nat):Int))
abbrev CW:=(6,pt (z+1))
abbrev DT:=(7,pt (z+2))
abbrev JF:=(69,i6 ((k - 0:Nat):Int))
abbrev Lp:=[(Ak w),(GK z c),(J4 z),(GU z y16),(Ph n58 y62)]
end
theorem WI(w:World)(hL:Gz w)(c:Aj)(hc:Aj.ok Any w c)(p k:Nat)(hp:p<c.Aa.xs.length)(hk:k<(gd c.Aa.xs p).Ah.xs.length)(hFr:1≤c.Frames∧c.Frames≤1024)(hb:∀ q n,q≤p→n<(gd c.Aa.xs q).Ah.xs.length→(q<p∨n<k)→Bd (Dk c q n)):Calls Tryd.prog 94 #[.agg (Aj.arr c),.int .i64 (p:Int),.int .i64 (k:Int)] w fun e w'=>e = .returned (.agg (Ai.arr (Fe c p k)))∧CJ (fun _=>False) w w':=by
 obtain⟨z,hz⟩:∃ z,z=w.heap.size:=⟨_,rfl⟩
 refine BP (args:=[.agg (Aj.arr c),Ac p,Ac k]) 133 ⟨w,z,[(Ak w)]⟩ Tryd.func94 rfl (by kernel_rfl) (by kernel_rfl) (EQ hz) ?_
 have hpl:=hc.Aa.1.len;have hpc:=hc.Aa.1.le;have hrl:=(hc.Aa.2 p hp).Ah.1.len;have hrc:=(hc.Aa.2 p hp).Ah.1.le
 refine DZ [0,1,2] [(0,.agg (Aj.arr c)),(1,Ac p),(2,Ac k)] ?_
 refine q_c 5 0 [] [[o0,o0]] [] [(1,Ac p),(2,Ac k),(3,pt z),(CW z)] ⟨w,z+2,[(Ak w),(GK z c),(J4 z)]⟩ rfl Ag ?_
 obtain⟨b1,o2,ha3,hF5,hc4⟩:=(hc.Aa).1.all (show 0<c.Aa.xs.length by omega)
 replace ha3:c.Aa.a=some ⟨b1,o2,none⟩:=ha3
 have hc6:=hc4 p (show p<c.Aa.xs.length by omega)
 have he7:=(hc.Aa).2 p (show p<c.Aa.xs.length by omega)
 obtain⟨y8,hy8⟩:∃ y_,y_=gd c.Aa.xs p:=⟨_,rfl⟩
 rw[←hy8]at he7 hc6
 (try rw[←hy8]at hk hrl hrc)
 obtain⟨b9,o10,ha11,hF13,hc12⟩:=(he7.Ah).1.all (show 0<y8.Ah.xs.length by omega)
 replace ha11:y8.Ah.a=some ⟨b9,o10,none⟩:=ha11
 have hc14:=hc12 k (show k<y8.Ah.xs.length by omega)
 have he15:=(he7.Ah).2 k (show k<y8.Ah.xs.length by omega)
 obtain⟨y16,hy16⟩:∃ y_,y_=gd y8.Ah.xs k:=⟨_,rfl⟩
 rw[←hy16]at he15 hc14
 have hfy16:(-9223372036854775808:Int)≤y16.Frame∧y16.Frame≤9223372036854775807:=he15.Frame
 refine q_c 6 2 [] [[o0,(Jk 1 b1 o2 c.Aa),o0,(oi p),o0,⟨.auto [.via 0 (.slice y8.Ah.a y8.Ah.xs.length y8.Ah.cap)],some (.slice (some ⟨b9,o10,none⟩) y8.Ah.xs.length y8.Ah.cap)⟩,o0,(oi k),(ol 0 (BJ.arr y16)),o0,(an 4 3)],[o0,(a1 3)]] [Qb z,IQ b1 o2 c.Aa,Ed p,p<c.Aa.xs.length,Dt,Old w b1 (o2+p*8+6) (.slice y8.Ah.a y8.Ah.xs.length y8.Ah.cap),IQ b9 o10 y8.Ah,Ed k,k<y8.Ah.xs.length,Dt,Ie w b9 (o10+k*4) (BJ.arr y16),Qb (z+2),Qb (z+2),Qb (z+2),Qb (z+2),Qb (z+2)] [(1,Ac p),(2,Ac k),(3,pt z),(CW z),(DT z),(24,i6 y16.C9)] ⟨w,z+3,[(Ak w),(GK z c),(J4 z),(GU z y16)]⟩ rfl ⟨rfl,IP ha3,rfl,(by omega),rfl,Aq (hc6 6 _ rfl),IP ha11,rfl,(by omega),rfl,EL hc14,rfl,rfl,rfl,rfl,rfl,Ag⟩ ?_
 refine Bz 63 #[i6 y16.C9,i6 0,i6 255] (some 25) (.bool (win y16.C9 0 255)) (fun w17 hw17=>Bl w17 y16.C9 0 255) (fun n18 (hn19:z+3≤n18) => ?_)
 refine Dz [1,2,3,6,7,25] [(1,Ac p),(2,Ac k),(3,pt z),(CW z),(DT z),(25,.bool (win y16.C9 0 255))] ?_
 by_cases h20:(win y16.C9 0 255)=true
 ·have hd21:=Es h20
  refine BQ 0 7 [] [[(ov (.bool false)),o0,o0,(a1 3),o0,(a1 3),(ov (i6 (256 - y16.C9)))]] [Value.bool (!(win y16.C9 0 255))=Value.bool false,Qb (z+2),Qb (z+2),Wr ((256:Int) - y16.C9) (256 - y16.C9)] [(1,Ac p),(2,Ac k),(3,pt z),(CW z),(DT z),(27,.bool false),(29,i6 y16.BG),(32,i6 (256 - y16.C9))] rfl ⟨by simp[h20],rfl,rfl,CU,Ag⟩ ?_
  refine Bz 63 #[i6 y16.BG,i6 1,i6 (256 - y16.C9)] (some 33) (.bool (win y16.BG 1 (256 - y16.C9))) (fun w22 hw22=>Bl w22 y16.BG 1 (256 - y16.C9)) (fun n23 (hn24:n18≤n23) => ?_)
  refine Dz [1,2,3,6,7,27,33] [(1,Ac p),(2,Ac k),(3,pt z),(CW z),(DT z),(27,.bool false),(33,.bool (win y16.BG 1 (256 - y16.C9)))] ?_
  by_cases h25:(win y16.BG 1 (256 - y16.C9))=true
  ·have hd26:=Es h25
   by_cases h27:(y16.Frame:Int)<0
   ·refine BQ 5 2 [1] [[(ov (.bool false)),o0,o0,o0,(a1 3),oT,o0,o0,o0,o0,o0],[o0,o0]] [Value.bool (!(win y16.BG 1 (256 - y16.C9)))=Value.bool false,Qb (z+2),BT ((y16.Frame:Int)<0)] [(CW z),(57,Ac p),(58,Ac k)] rfl ⟨by simp[h25],rfl,bt,Ag⟩ ?_
    refine Bz 96 #[(Ac p),Ac k] (some 59) (.agg #[(Ac p),Ac k]) (fun w28 hw28=>EH w28 (p:Int) (k:Int)) (fun n29 (hn30:n23≤n29) => ?_)
    refine FD 3 0 [] [[o0,(an 3 2)]] [Qb (z+1),Qb (z+1),Qb (z+1)] [(CW z)] ⟨w,n29,[(Ak w),(GK z c),(Sm z p k),(GU z y16)]⟩ rfl ⟨rfl,rfl,rfl,Ag⟩ ?_
    refine AX [.at 2,.at 2,.at 2] [Qb (z+1),Qb (z+1),Qb (z+1)] (.agg #[i6 409,Ac p,Ac k]) ⟨rfl,rfl,rfl,Ag⟩ ?_
    intro w31 hw31
    refine⟨congrArg Ending.returned (?_:Value.agg #[i6 409,Ac p,Ac k] = .agg (Ai.arr (Fe c p k))),BC hw31⟩
    have hq:Fe c p k=_:=QH (by have ek:Dk c p k=y16:=(by dsimp only[Dk];rw[←hy8,←hy16]);rw[ek];unfold L9 win;simp;omega)
    exact(congrArg (fun t=>Value.agg (Ai.arr t)) hq).symm
   by_cases h32:(c.Frames - y16.Frame:Int)<y16.BG
   ·refine BQ 5 2 [1] [[(ov (.bool false)),o0,o0,o0,(a1 3),oF,o0,o0,o0,(a1 3),o0,(a1 1),o0,(a1 3),(ov (i6 (c.Frames - y16.Frame))),oT,o0,o0,o0],[o0,o0]] [Value.bool (!(win y16.BG 1 (256 - y16.C9)))=Value.bool false,Qb (z+2),BF ((y16.Frame:Int)<0),Qb (z+2),Qb z,Qb (z+2),Wr ((c.Frames:Int) - y16.Frame) (c.Frames - y16.Frame),BT ((y16.BG:Int) > (c.Frames - y16.Frame))] [(CW z),(57,Ac p),(58,Ac k)] rfl ⟨by simp[h25],rfl,bf,rfl,rfl,rfl,CU,bt,Ag⟩ ?_
    refine Bz 96 #[(Ac p),Ac k] (some 59) (.agg #[(Ac p),Ac k]) (fun w33 hw33=>EH w33 (p:Int) (k:Int)) (fun n34 (hn35:n23≤n34) => ?_)
    refine FD 3 0 [] [[o0,(an 3 2)]] [Qb (z+1),Qb (z+1),Qb (z+1)] [(CW z)] ⟨w,n34,[(Ak w),(GK z c),(Sm z p k),(GU z y16)]⟩ rfl ⟨rfl,rfl,rfl,Ag⟩ ?_
    refine AX [.at 2,.at 2,.at 2] [Qb (z+1),Qb (z+1),Qb (z+1)] (.agg #[i6 409,Ac p,Ac k]) ⟨rfl,rfl,rfl,Ag⟩ ?_
    intro w36 hw36
    refine⟨congrArg Ending.returned (?_:Value.agg #[i6 409,Ac p,Ac k] = .agg (Ai.arr (Fe c p k))),BC hw36⟩
    have hq:Fe c p k=_:=QH (by have ek:Dk c p k=y16:=(by dsimp only[Dk];rw[←hy8,←hy16]);rw[ek];unfold L9 win;simp;omega)
    exact(congrArg (fun t=>Value.agg (Ai.arr t)) hq).symm
   refine BQ 0 20 [] [[(ov (.bool false)),o0,o0,o0,(a1 3),oF,o0,o0,o0,(a1 3),o0,(a1 1),o0,(a1 3),(ov (i6 (c.Frames - y16.Frame))),oF,o0,o0,o0,(a1 3)]] [Value.bool (!(win y16.BG 1 (256 - y16.C9)))=Value.bool false,Qb (z+2),BF ((y16.Frame:Int)<0),Qb (z+2),Qb z,Qb (z+2),Wr ((c.Frames:Int) - y16.Frame) (c.Frames - y16.Frame),BF ((y16.BG:Int) > (c.Frames - y16.Frame)),Qb (z+2)] [(1,Ac p),(2,Ac k),(3,pt z),(CW z),(DT z),(51,.bool false),(53,i6 y16.IB)] rfl ⟨by simp[h25],rfl,bf,rfl,rfl,rfl,CU,bf,rfl,Ag⟩ ?_
   refine Bz 63 #[i6 y16.IB,i6 1,i6 7] (some 54) (.bool (win y16.IB 1 7)) (fun w37 hw37=>Bl w37 y16.IB 1 7) (fun n38 (hn39:n23≤n38) => ?_)
   refine Dz [1,2,3,6,7,51,54] [(1,Ac p),(2,Ac k),(3,pt z),(CW z),(DT z),(51,.bool false),(54,.bool (win y16.IB 1 7))] ?_
   by_cases h40:(win y16.IB 1 7)=true
   ·have hd41:=Es h40
    refine BQ 11 0 [0] [[(ov (.bool false)),o0],[o0,(Jk 1 b1 o2 c.Aa),o0,(oi p),o0,⟨.auto [.via 0 (.slice y8.Ah.a y8.Ah.xs.length y8.Ah.cap)],some (.slice (some ⟨b9,o10,none⟩) y8.Ah.xs.length y8.Ah.cap)⟩,o0,⟨.slc 0 k false,none⟩,o0,o0]] [Value.bool (!(win y16.IB 1 7))=Value.bool false,Qb z,IQ b1 o2 c.Aa,Ed p,p<c.Aa.xs.length,Dt,Old w b1 (o2+p*8+6) (.slice y8.Ah.a y8.Ah.xs.length y8.Ah.cap),IQ b9 o10 y8.Ah,(0:Int)=((0:Nat):Int),Ed k,0≤k,k≤y8.Ah.cap,y8.Ah.cap=0∨(0:Nat)=0] [(1,Ac p),(2,Ac k),(3,pt z),(CW z),(DT z),(Ld k b9 o10 y8),(JF k),(70,i6 0)] rfl ⟨by simp[h40],rfl,IP ha3,rfl,(by omega),rfl,Aq (hc6 6 _ rfl),IP ha11,rfl,rfl,(by omega),(by omega),.inr rfl,Ag⟩ ?_
    refine DW (fun m a w'=>∃ (n43:Nat) (i:Nat),m=k - i∧n38≤n43∧(i≤k)∧(∀ a,a<i→Qk c p k a=false)∧St 133 [(1,Ac p),(2,Ac k),(3,pt z),(CW z),(DT z),(Ld k b9 o10 y8),(JF k),(70,Ac i)] [] ⟨w,n43,[(Ak w),(GK z c),(J4 z),(GU z y16)]⟩ a w') (k - 0) ?_ ?_
    ·intro a w' hs;exact⟨n38,0,rfl,Nat.le_refl _,Nat.zero_le _,fun i hi=>absurd hi (Nat.not_lt_zero i),hs⟩
    rintro m a w' ⟨n43,i,rfl,hn42,hki,hf,hs⟩
    refine(?_:G Tryd.prog 133 [(1,Ac p),(2,Ac k),(3,pt z),(CW z),(DT z),(Ld k b9 o10 y8),(JF k),(70,Ac i)] [] ⟨w,n43,[(Ak w),(GK z c),(J4 z),(GU z y16)]⟩ _ _ _) a w' hs
    clear hs a w'
    have hbb:L9 c (Dk c p k)=true:=(by have ek:Dk c p k=y16:=(by dsimp only[Dk];rw[←hy8,←hy16]);rw[ek];unfold L9 win;simp;omega)
    refine DC ?_
    by_cases h44:(i:Int)<((k - 0:Nat):Int)
    ·refine A7 10 0 [1] [[oT]] [BT ((i:Int)<((k - 0:Nat):Int))] [(1,Ac p),(2,Ac k),(3,pt z),(CW z),(DT z),(Ld k b9 o10 y8),(JF k),(70,Ac i),(71,.bool true)] rfl ⟨bt,Ag⟩ ?_
     have hc45:=hc12 i (show i<y8.Ah.xs.length by omega)
     have he46:=(he7.Ah).2 i (show i<y8.Ah.xs.length by omega)
     obtain⟨y47,hy47⟩:∃ y_,y_=gd y8.Ah.xs i:=⟨_,rfl⟩
     rw[←hy47]at he46 hc45
     have hfy47:(-9223372036854775808:Int)≤y47.Frame∧y47.Frame≤9223372036854775807:=he46.Frame
     refine q_c 5 8 [] [[(oi i),(ol 0 (BJ.arr y47)),o0,(an 4 4)],[o0,(a1 3),o0,(a1 3),o0,(a1 4),o0,(a1 4)]] [Ed i,i<k - 0,Dt,Ie w b9 (o10+i*4) (BJ.arr y47),Qb n43,Qb n43,Qb n43,Qb n43,Qb (z+2),Qb (z+2),Qb n43,Qb n43] [(1,Ac p),(2,Ac k),(3,pt z),(CW z),(DT z),(Ld k b9 o10 y8),(JF k),(70,Ac i),(75,i6 y16.C9),(77,i6 y16.BG),(79,i6 y47.C9),(81,i6 y47.BG)] ⟨w,n43+1,[(Ak w),(GK z c),(J4 z),(GU z y16),(bk n43 (BJ.arr y47) 103)]⟩ rfl ⟨rfl,(by omega),rfl,EL hc45,rfl,rfl,rfl,rfl,rfl,rfl,rfl,rfl,Ag⟩ ?_
     have hm49:=hb p i (by omega) (by rw[←hy8];omega) (by omega);dsimp only[Dk]at hm49;rw[←hy8,←hy47]at hm49;unfold Bd at hm49
     refine Bz 99 #[i6 y16.C9,i6 y16.BG,i6 y47.C9,i6 y47.BG] (some 82) (.bool (meet y16.C9 y16.BG y47.C9 y47.BG)) (fun w48 hw48=>P6 w48 y16.C9 y16.BG y47.C9 y47.BG (by omega) (by omega) (by omega) (by omega)) (fun n50 (hn51:n43+1≤n50) => ?_)
     refine Dz [1,2,3,6,7,68,69,70,82] [(1,Ac p),(2,Ac k),(3,pt z),(CW z),(DT z),(Ld k b9 o10 y8),(JF k),(70,Ac i),(82,.bool (meet y16.C9 y16.BG y47.C9 y47.BG))] ?_
     refine Yi (by kernel_rfl) ?_
     refine GZ ?_
     by_cases h52:(meet y16.C9 y16.BG y47.C9 y47.BG)=true
     ·refine A7 3 2 [3] [[o0,o0]] [Value.bool (meet y16.C9 y16.BG y47.C9 y47.BG)=Value.bool true] [(CW z),(83,Ac p),(84,Ac k)] rfl ⟨(congrArg Value.bool h52),Ag⟩ ?_
      refine Bz 96 #[(Ac p),Ac k] (some 85) (.agg #[(Ac p),Ac k]) (fun w53 hw53=>EH w53 (p:Int) (k:Int)) (fun n54 (hn55:n50≤n54) => ?_)
      refine FD 3 0 [] [[o0,(an 3 2)]] [Qb (z+1),Qb (z+1),Qb (z+1)] [(CW z)] ⟨w,n54,[(Ak w),(GK z c),(bk (z+1) #[i6 410,Ac p,Ac k] 111),(GU z y16),(bk n43 (BJ.arr y47) 103)]⟩ rfl ⟨rfl,rfl,rfl,Ag⟩ ?_
      refine AX [.at 2,.at 2,.at 2] [Qb (z+1),Qb (z+1),Qb (z+1)] (.agg #[i6 410,Ac p,Ac k]) ⟨rfl,rfl,rfl,Ag⟩ ?_
      intro w56 hw56
      refine⟨congrArg Ending.returned (?_:Value.agg #[i6 410,Ac p,Ac k] = .agg (Ai.arr (Fe c p k))),BC hw56⟩
      have hq:Fe c p k=_:=YR hbb (range_any (k:=i) (by omega) (by have ek:Dk c p k=y16:=(by dsimp only[Dk];rw[←hy8,←hy16]);have ei:Dk c p i=y47:=(by dsimp only[Dk];rw[←hy8,←hy47]);unfold Qk;rw[ek,ei];exact h52))
      exact(congrArg (fun t=>Value.agg (Ai.arr t)) hq).symm
     refine A7 6 0 [2] [[(ov (i6 ((i+1:Nat):Int))),o0]] [Value.bool (meet y16.C9 y16.BG y47.C9 y47.BG)=Value.bool false,Wr ((i:Int)+1) (((i+1:Nat):Int))] [(1,Ac p),(2,Ac k),(3,pt z),(CW z),(DT z),(Ld k b9 o10 y8),(JF k),(70,i6 ((i+1:Nat):Int))] rfl ⟨(congrArg Value.bool (Bool.eq_false_iff.2 h52)),CU,Ag⟩ ?_
     refine Cc [0,1,2,3] [(Ak w),(GK z c),(J4 z),(GU z y16)] rfl rfl ?_
     refine BR [1,2,3,6,7,68,69,70] [(1,Ac p),(2,Ac k),(3,pt z),(CW z),(DT z),(Ld k b9 o10 y8),(JF k),(70,i6 ((i+1:Nat):Int))] ?_
     refine Cj (fun a w' hs=>⟨k - (i+1),by omega,n50,(i+1),rfl,by omega,by omega,Gj hf (by have ek:Dk c p k=y16:=(by dsimp only[Dk];rw[←hy8,←hy16]);have ei:Dk c p i=y47:=(by dsimp only[Dk];rw[←hy8,←hy47]);unfold Qk;rw[ek,ei];simpa using h52),hs⟩)
    refine A7 16 0 [0] [[oF],[o0,(Jk 1 b1 o2 c.Aa),o0,(ov (i6 ((p+1:Nat):Int))),⟨.slc 0 (p+1) false,none⟩,o0,o0]] [BF ((i:Int)<((k - 0:Nat):Int)),Qb z,IQ b1 o2 c.Aa,Wr ((p:Int)+1) (((p+1:Nat):Int)),(0:Int)=((0:Nat):Int),(((p+1:Nat):Int):Int)=((p+1:Nat):Int),0≤p+1,p+1≤c.Aa.cap,c.Aa.cap=0∨(0:Nat)=0] [(1,Ac p),(2,Ac k),(CW z),(DT z),(FZ p c b1 o2),(Fq p),(94,i6 0)] rfl ⟨bf,rfl,IP ha3,CU,rfl,rfl,(by omega),(by omega),.inr rfl,Ag⟩ ?_
    refine DW (fun m a w'=>∃ (n58:Nat) (q:Nat),m=p+1 - q∧n43≤n58∧(q≤p+1)∧(∀ a,a<q→Vd c p k a=false)∧St 133 [(1,Ac p),(2,Ac k),(CW z),(DT z),(FZ p c b1 o2),(Fq p),(94,Ac q)] [] ⟨w,n58,[(Ak w),(GK z c),(J4 z),(GU z y16)]⟩ a w') (p+1 - 0) ?_ ?_
    ·intro a w' hs;exact⟨n43,0,rfl,Nat.le_refl _,Nat.zero_le _,fun i hi=>absurd hi (Nat.not_lt_zero i),hs⟩
    rintro m a w' ⟨n58,q,rfl,hn57,hkq,hg,hs⟩
    refine(?_:G Tryd.prog 133 [(1,Ac p),(2,Ac k),(CW z),(DT z),(FZ p c b1 o2),(Fq p),(94,Ac q)] [] ⟨w,n58,[(Ak w),(GK z c),(J4 z),(GU z y16)]⟩ _ _ _) a w' hs
    clear hs a w'
    have hf0:(List.range k).any (Qk c p k)=false:=IV (fun a ha=>hf a (by omega))
    refine DC ?_
    by_cases h59:(q:Int)<((p+1 - 0:Nat):Int)
    ·refine A7 10 0 [1] [[oT]] [BT ((q:Int)<((p+1 - 0:Nat):Int))] [(1,Ac p),(2,Ac k),(CW z),(DT z),(FZ p c b1 o2),(Fq p),(94,Ac q),(95,.bool true)] rfl ⟨bt,Ag⟩ ?_
     have hc60:=hc4 q (show q<c.Aa.xs.length by omega)
     have he61:=(hc.Aa).2 q (show q<c.Aa.xs.length by omega)
     obtain⟨y62,hy62⟩:∃ y_,y_=gd c.Aa.xs q:=⟨_,rfl⟩
     rw[←hy62]at he61 hc60
     (try rw[←hy62]at hk hrl hrc)
     refine q_c 8 0 [] [[o0,(oi q),(ol 0 (Ar.arr y62)),o0,o0,(an 8 4)],[o0,(a1 4),o0,o0]] [Ed q,q<p+1 - 0,Dt,Ie w b1 (o2+q*8) (Ar.arr y62),Qb n58,Qb n58,Qb n58,Qb n58,Qb n58,Qb n58,Qb n58,Qb n58,Qb n58] [(1,Ac p),(2,Ac k),(CW z),(DT z),(10,Ac q),(FZ p c b1 o2),(Fq p),(94,Ac q),(MC y62),(H8 y62),(102,i6 0)] ⟨w,n58+1,(Lp z y16 n58 y62 c w)⟩ rfl ⟨rfl,(by omega),rfl,EL hc60,rfl,rfl,rfl,rfl,rfl,rfl,rfl,rfl,rfl,Ag⟩ ?_
     refine DW (fun m a w'=>∃ (n64:Nat) (n:Nat),m=y62.Ah.xs.length - n∧n58+1≤n64∧(n≤y62.Ah.xs.length)∧(∀ a,a<n→S9 c p k q a=false)∧St 133 [(1,Ac p),(2,Ac k),(CW z),(DT z),(10,Ac q),(FZ p c b1 o2),(Fq p),(94,Ac q),(MC y62),(H8 y62),(102,Ac n)] [] ⟨w,n64,(Lp z y16 n58 y62 c w)⟩ a w') (y62.Ah.xs.length - 0) ?_ ?_
     ·intro a w' hs;exact⟨(n58+1),0,rfl,Nat.le_refl _,Nat.zero_le _,fun i hi=>absurd hi (Nat.not_lt_zero i),hs⟩
     rintro m a w' ⟨n64,n,rfl,hn63,hkn,hh,hs⟩
     refine(?_:G Tryd.prog 133 [(1,Ac p),(2,Ac k),(CW z),(DT z),(10,Ac q),(FZ p c b1 o2),(Fq p),(94,Ac q),(MC y62),(H8 y62),(102,Ac n)] [] ⟨w,n64,(Lp z y16 n58 y62 c w)⟩ _ _ _) a w' hs
     clear hs a w'
     have hyl:=he61.Ah.1.len
     refine DC ?_
     by_cases h65:(n:Int)<(y62.Ah.xs.length:Int)
     ·refine A7 10 0 [1] [[oT]] [BT ((n:Int)<(y62.Ah.xs.length:Int))] [(1,Ac p),(2,Ac k),(CW z),(DT z),(10,Ac q),(FZ p c b1 o2),(Fq p),(94,Ac q),(MC y62),(H8 y62),(102,Ac n),(103,.bool true)] rfl ⟨bt,Ag⟩ ?_
      obtain⟨b66,o67,ha68,hF70,hc69⟩:=(he61.Ah).1.all (show 0<y62.Ah.xs.length by omega)
      replace ha68:y62.Ah.a=some ⟨b66,o67,none⟩:=ha68
      refine IM [(1,Ac p),(2,Ac k),(CW z),(DT z),(10,Ac q),(FZ p c b1 o2),(Fq p),(94,Ac q),(Ku y62 b66 o67),(H8 y62),(102,Ac n),(103,.bool true)] (by(try dsimp only[J4,GU,Ph,GK,Ku,FZ,MC,Ld,H8,Fq,CW,DT,JF,Lp]);simp only[ha68]) ?_
      have hc71:=hc69 n (show n<y62.Ah.xs.length by omega)
      have he72:=(he61.Ah).2 n (show n<y62.Ah.xs.length by omega)
      obtain⟨y73,hy73⟩:∃ y_,y_=gd y62.Ah.xs n:=⟨_,rfl⟩
      rw[←hy73]at he72 hc71
      have hfy73:(-9223372036854775808:Int)≤y73.Frame∧y73.Frame≤9223372036854775807:=he72.Frame
      refine q_c 4 0 [] [[o0,(oi n),(ol 0 (BJ.arr y73)),o0,o0,(an 4 5)]] [Ed n,n<y62.Ah.xs.length,Dt,Ie w b66 (o67+n*4) (BJ.arr y73),Qb n64,Qb n64,Qb n64,Qb n64] [(1,Ac p),(2,Ac k),(CW z),(DT z),(10,Ac q),(FZ p c b1 o2),(Fq p),(94,Ac q),(Ku y62 b66 o67),(H8 y62),(102,Ac n),(13,pt n64),(12,Ac n)] ⟨w,n64+1,[(Ak w),(GK z c),(J4 z),(GU z y16),(Ph n58 y62),(bk n64 (BJ.arr y73) 103)]⟩ rfl ⟨rfl,(by omega),rfl,EL hc71,rfl,rfl,rfl,rfl,Ag⟩ ?_
      by_cases h74:(q:Int)<(p:Int)
      ·refine A7 1 17 [] [[o0,o0,oT,o0,o0,o0,o0,(a1 3),o0,(a1 3),o0,(a1 5),o0,(a1 5)]] [BT ((q:Int)<(p:Int)),Qb (z+2),Qb (z+2),Qb n64,Qb n64] [(1,Ac p),(2,Ac k),(CW z),(DT z),(10,Ac q),(FZ p c b1 o2),(Fq p),(94,Ac q),(Ku y62 b66 o67),(H8 y62),(102,Ac n),(115,.bool true),(117,i6 y16.Frame),(119,i6 y16.BG),(121,i6 y73.Frame),(123,i6 y73.BG)] rfl ⟨bt,rfl,rfl,rfl,rfl,Ag⟩ ?_
       have hm76:=hb q n (by omega) (by rw[←hy62];omega) (by omega);dsimp only[Dk]at hm76;rw[←hy62,←hy73]at hm76;unfold Bd at hm76
       refine Bz 99 #[i6 y16.Frame,i6 y16.BG,i6 y73.Frame,i6 y73.BG] (some 124) (.bool (meet y16.Frame y16.BG y73.Frame y73.BG)) (fun w75 hw75=>P6 w75 y16.Frame y16.BG y73.Frame y73.BG (by omega) (by omega) (by omega) (by omega)) (fun n77 (hn78:n64+1≤n77) => ?_)
       refine BQ 2 0 [] [[o0]] [] [(1,Ac p),(2,Ac k),(CW z),(DT z),(10,Ac q),(FZ p c b1 o2),(Fq p),(94,Ac q),(Ku y62 b66 o67),(H8 y62),(102,Ac n),(125,.bool (meet y16.Frame y16.BG y73.Frame y73.BG))] rfl Ag ?_
       by_cases h79:(meet y16.Frame y16.BG y73.Frame y73.BG)=true
       ·refine A7 3 2 [3] [[o0,o0]] [Value.bool (meet y16.Frame y16.BG y73.Frame y73.BG)=Value.bool true] [(CW z),(126,Ac p),(127,Ac k)] rfl ⟨(congrArg Value.bool h79),Ag⟩ ?_
        refine Bz 96 #[(Ac p),Ac k] (some 128) (.agg #[(Ac p),Ac k]) (fun w80 hw80=>EH w80 (p:Int) (k:Int)) (fun n81 (hn82:n77≤n81) => ?_)
        refine FD 3 0 [] [[o0,(an 3 2)]] [Qb (z+1),Qb (z+1),Qb (z+1)] [(CW z)] ⟨w,n81,[(Ak w),(GK z c),(bk (z+1) #[i6 411,Ac p,Ac k] 111),(GU z y16),(Ph n58 y62),(bk n64 (BJ.arr y73) 103)]⟩ rfl ⟨rfl,rfl,rfl,Ag⟩ ?_
        refine AX [.at 2,.at 2,.at 2] [Qb (z+1),Qb (z+1),Qb (z+1)] (.agg #[i6 411,Ac p,Ac k]) ⟨rfl,rfl,rfl,Ag⟩ ?_
        intro w83 hw83
        refine⟨congrArg Ending.returned (?_:Value.agg #[i6 411,Ac p,Ac k] = .agg (Ai.arr (Fe c p k))),BC hw83⟩
        have hq:Fe c p k=_:=WE hbb hf0 (range_any (k:=q) (by omega) (range_any (k:=n) (by dsimp only[ES];rw[←hy62];omega) (by have ek:Dk c p k=y16:=(by dsimp only[Dk];rw[←hy8,←hy16]);have en:Dk c q n=y73:=(by dsimp only[Dk];rw[←hy62,←hy73]);unfold S9;rw[ek,en,h79];simp;omega)))
        exact(congrArg (fun t=>Value.agg (Ai.arr t)) hq).symm
       refine A7 6 0 [2] [[(ov (i6 ((n+1:Nat):Int))),o0]] [Value.bool (meet y16.Frame y16.BG y73.Frame y73.BG)=Value.bool false,Wr ((n:Int)+1) (((n+1:Nat):Int))] [(1,Ac p),(2,Ac k),(CW z),(DT z),(10,Ac q),(FZ p c b1 o2),(Fq p),(94,Ac q),(Ku y62 b66 o67),(H8 y62),(MN n)] rfl ⟨(congrArg Value.bool (Bool.eq_false_iff.2 h79)),CU,Ag⟩ ?_
       refine Cc [0,1,2,3,4] (Lp z y16 n58 y62 c w) rfl rfl ?_
       refine Fj [1,2,6,7,10,92,93,94,100,101,102] [(1,Ac p),(2,Ac k),(CW z),(DT z),(10,Ac q),(FZ p c b1 o2),(Fq p),(94,Ac q),(MC y62),(H8 y62),(MN n)] (by(try dsimp only[J4,GU,Ph,GK,Ku,FZ,MC,Ld,H8,Fq,MN,CW,DT,JF,Lp]);simp only[ha68];rfl) ?_
       refine Cj (fun a w' hs=>⟨y62.Ah.xs.length - (n+1),by omega,n77,(n+1),rfl,by omega,by omega,Gj hh (by have ek:Dk c p k=y16:=(by dsimp only[Dk];rw[←hy8,←hy16]);have en:Dk c q n=y73:=(by dsimp only[Dk];rw[←hy62,←hy73]);unfold S9;rw[ek,en];simp[h79] <;> omega),hs⟩)
      by_cases h84:(n:Int)<(k:Int)
      ·refine A7 1 17 [] [[o0,o0,oF,o0,o0,o0,oT,o0,o0,o0,(a1 3),o0,(a1 3),o0,(a1 5),o0,(a1 5)]] [BF ((q:Int)<(p:Int)),BT ((n:Int)<(k:Int)),Qb (z+2),Qb (z+2),Qb n64,Qb n64] [(1,Ac p),(2,Ac k),(CW z),(DT z),(10,Ac q),(FZ p c b1 o2),(Fq p),(94,Ac q),(Ku y62 b66 o67),(H8 y62),(102,Ac n),(115,.bool true),(117,i6 y16.Frame),(119,i6 y16.BG),(121,i6 y73.Frame),(123,i6 y73.BG)] rfl ⟨bf,bt,rfl,rfl,rfl,rfl,Ag⟩ ?_
       have hm86:=hb q n (by omega) (by rw[←hy62];omega) (by omega);dsimp only[Dk]at hm86;rw[←hy62,←hy73]at hm86;unfold Bd at hm86
       refine Bz 99 #[i6 y16.Frame,i6 y16.BG,i6 y73.Frame,i6 y73.BG] (some 124) (.bool (meet y16.Frame y16.BG y73.Frame y73.BG)) (fun w85 hw85=>P6 w85 y16.Frame y16.BG y73.Frame y73.BG (by omega) (by omega) (by omega) (by omega)) (fun n87 (hn88:n64+1≤n87) => ?_)
       refine BQ 2 0 [] [[o0]] [] [(1,Ac p),(2,Ac k),(CW z),(DT z),(10,Ac q),(FZ p c b1 o2),(Fq p),(94,Ac q),(Ku y62 b66 o67),(H8 y62),(102,Ac n),(125,.bool (meet y16.Frame y16.BG y73.Frame y73.BG))] rfl Ag ?_
       by_cases h89:(meet y16.Frame y16.BG y73.Frame y73.BG)=true
       ·refine A7 3 2 [3] [[o0,o0]] [Value.bool (meet y16.Frame y16.BG y73.Frame y73.BG)=Value.bool true] [(CW z),(126,Ac p),(127,Ac k)] rfl ⟨(congrArg Value.bool h89),Ag⟩ ?_
        refine Bz 96 #[(Ac p),Ac k] (some 128) (.agg #[(Ac p),Ac k]) (fun w90 hw90=>EH w90 (p:Int) (k:Int)) (fun n91 (hn92:n87≤n91) => ?_)
        refine FD 3 0 [] [[o0,(an 3 2)]] [Qb (z+1),Qb (z+1),Qb (z+1)] [(CW z)] ⟨w,n91,[(Ak w),(GK z c),(bk (z+1) #[i6 411,Ac p,Ac k] 111),(GU z y16),(Ph n58 y62),(bk n64 (BJ.arr y73) 103)]⟩ rfl ⟨rfl,rfl,rfl,Ag⟩ ?_
        refine AX [.at 2,.at 2,.at 2] [Qb (z+1),Qb (z+1),Qb (z+1)] (.agg #[i6 411,Ac p,Ac k]) ⟨rfl,rfl,rfl,Ag⟩ ?_
        intro w93 hw93
        refine⟨congrArg Ending.returned (?_:Value.agg #[i6 411,Ac p,Ac k] = .agg (Ai.arr (Fe c p k))),BC hw93⟩
        have hq:Fe c p k=_:=WE hbb hf0 (range_any (k:=q) (by omega) (range_any (k:=n) (by dsimp only[ES];rw[←hy62];omega) (by have ek:Dk c p k=y16:=(by dsimp only[Dk];rw[←hy8,←hy16]);have en:Dk c q n=y73:=(by dsimp only[Dk];rw[←hy62,←hy73]);unfold S9;rw[ek,en,h89];simp;omega)))
        exact(congrArg (fun t=>Value.agg (Ai.arr t)) hq).symm
       refine A7 6 0 [2] [[(ov (i6 ((n+1:Nat):Int))),o0]] [Value.bool (meet y16.Frame y16.BG y73.Frame y73.BG)=Value.bool false,Wr ((n:Int)+1) (((n+1:Nat):Int))] [(1,Ac p),(2,Ac k),(CW z),(DT z),(10,Ac q),(FZ p c b1 o2),(Fq p),(94,Ac q),(Ku y62 b66 o67),(H8 y62),(MN n)] rfl ⟨(congrArg Value.bool (Bool.eq_false_iff.2 h89)),CU,Ag⟩ ?_
       refine Cc [0,1,2,3,4] (Lp z y16 n58 y62 c w) rfl rfl ?_
       refine Fj [1,2,6,7,10,92,93,94,100,101,102] [(1,Ac p),(2,Ac k),(CW z),(DT z),(10,Ac q),(FZ p c b1 o2),(Fq p),(94,Ac q),(MC y62),(H8 y62),(MN n)] (by(try dsimp only[J4,GU,Ph,GK,Ku,FZ,MC,Ld,H8,Fq,MN,CW,DT,JF,Lp]);simp only[ha68];rfl) ?_
       refine Cj (fun a w' hs=>⟨y62.Ah.xs.length - (n+1),by omega,n87,(n+1),rfl,by omega,by omega,Gj hh (by have ek:Dk c p k=y16:=(by dsimp only[Dk];rw[←hy8,←hy16]);have en:Dk c q n=y73:=(by dsimp only[Dk];rw[←hy62,←hy73]);unfold S9;rw[ek,en];simp[h89] <;> omega),hs⟩)
      refine A7 9 0 [0] [[o0,o0,oF,o0,o0,o0,oF,o0,o0,o0],[(ov (i6 ((n+1:Nat):Int))),o0]] [BF ((q:Int)<(p:Int)),BF ((n:Int)<(k:Int)),Wr ((n:Int)+1) (((n+1:Nat):Int))] [(1,Ac p),(2,Ac k),(CW z),(DT z),(10,Ac q),(FZ p c b1 o2),(Fq p),(94,Ac q),(Ku y62 b66 o67),(H8 y62),(MN n)] rfl ⟨bf,bf,CU,Ag⟩ ?_
      refine Cc [0,1,2,3,4] (Lp z y16 n58 y62 c w) rfl rfl ?_
      refine Fj [1,2,6,7,10,92,93,94,100,101,102] [(1,Ac p),(2,Ac k),(CW z),(DT z),(10,Ac q),(FZ p c b1 o2),(Fq p),(94,Ac q),(MC y62),(H8 y62),(MN n)] (by(try dsimp only[J4,GU,Ph,GK,Ku,FZ,MC,Ld,H8,Fq,MN,CW,DT,JF,Lp]);simp only[ha68];rfl) ?_
      refine Cj (fun a w' hs=>⟨y62.Ah.xs.length - (n+1),by omega,(n64+1),(n+1),rfl,by omega,by omega,Gj hh (by have ek:Dk c p k=y16:=(by dsimp only[Dk];rw[←hy8,←hy16]);have en:Dk c q n=y73:=(by dsimp only[Dk];rw[←hy62,←hy73]);unfold S9;rw[ek,en];simp <;> omega),hs⟩)
     refine A7 13 0 [0] [[oF],[(ov (i6 ((q+1:Nat):Int))),o0]] [BF ((n:Int)<(y62.Ah.xs.length:Int)),Wr ((q:Int)+1) (((q+1:Nat):Int))] [(1,Ac p),(2,Ac k),(CW z),(DT z),(FZ p c b1 o2),(Fq p),(94,i6 ((q+1:Nat):Int))] rfl ⟨bf,CU,Ag⟩ ?_
     refine Cc [0,1,2,3] [(Ak w),(GK z c),(J4 z),(GU z y16)] rfl rfl ?_
     refine BR [1,2,6,7,92,93,94] [(1,Ac p),(2,Ac k),(CW z),(DT z),(FZ p c b1 o2),(Fq p),(94,i6 ((q+1:Nat):Int))] ?_
     refine Cj (fun a w' hs=>⟨p+1 - (q+1),by omega,n64,(q+1),rfl,by omega,by omega,Gj hg (IV (fun i hi=>hh i (by dsimp only[ES]at hi;rw[←hy62]at hi;omega))),hs⟩)
    refine A7 15 0 [0] [[oF],[(oa [.via 0 (i6 0),.via 0 (i6 0),.via 0 (i6 0)]),(an 3 2)]] [BF ((q:Int)<((p+1 - 0:Nat):Int)),Old w 0 0 (i6 0),Old w 0 1 (i6 0),Old w 0 2 (i6 0),Qb (z+1),Qb (z+1),Qb (z+1)] [(CW z)] rfl ⟨bf,Aq (hL.2 0 _ rfl),Aq (hL.2 1 _ rfl),Aq (hL.2 2 _ rfl),rfl,rfl,rfl,Ag⟩ ?_
    refine AX [.at 2,.at 2,.at 2] [Qb (z+1),Qb (z+1),Qb (z+1)] (.agg #[i6 0,i6 0,i6 0]) ⟨rfl,rfl,rfl,Ag⟩ ?_
    intro w94 hw94
    refine⟨congrArg Ending.returned (?_:Value.agg #[i6 0,i6 0,i6 0] = .agg (Ai.arr (Fe c p k))),BC hw94⟩
    have hq:Fe c p k=_:=regQ_d hbb hf0 (IV (fun i hi=>hg i (by omega)))
    exact(congrArg (fun t=>Value.agg (Ai.arr t)) hq).symm
   have hd95:=Jn h40
   refine BQ 5 2 [1] [[(ov (.bool true)),o0],[o0,o0]] [Value.bool (!(win y16.IB 1 7))=Value.bool true] [(CW z),(57,Ac p),(58,Ac k)] rfl ⟨by simp[h40],Ag⟩ ?_
   refine Bz 96 #[(Ac p),Ac k] (some 59) (.agg #[(Ac p),Ac k]) (fun w96 hw96=>EH w96 (p:Int) (k:Int)) (fun n97 (hn98:n38≤n97) => ?_)
   refine FD 3 0 [] [[o0,(an 3 2)]] [Qb (z+1),Qb (z+1),Qb (z+1)] [(CW z)] ⟨w,n97,[(Ak w),(GK z c),(Sm z p k),(GU z y16)]⟩ rfl ⟨rfl,rfl,rfl,Ag⟩ ?_
   refine AX [.at 2,.at 2,.at 2] [Qb (z+1),Qb (z+1),Qb (z+1)] (.agg #[i6 409,Ac p,Ac k]) ⟨rfl,rfl,rfl,Ag⟩ ?_
   intro w99 hw99
   refine⟨congrArg Ending.returned (?_:Value.agg #[i6 409,Ac p,Ac k] = .agg (Ai.arr (Fe c p k))),BC hw99⟩
   have hq:Fe c p k=_:=QH (by have ek:Dk c p k=y16:=(by dsimp only[Dk];rw[←hy8,←hy16]);rw[ek];unfold L9 win;simp;omega)
   exact(congrArg (fun t=>Value.agg (Ai.arr t)) hq).symm
  have hd100:=Jn h25
  refine BQ 5 2 [1] [[(ov (.bool true)),o0,o0,o0,o0,o0,o0,o0],[o0,o0]] [Value.bool (!(win y16.BG 1 (256 - y16.C9)))=Value.bool true] [(CW z),(57,Ac p),(58,Ac k)] rfl ⟨by simp[h25],Ag⟩ ?_
  refine Bz 96 #[(Ac p),Ac k] (some 59) (.agg #[(Ac p),Ac k]) (fun w101 hw101=>EH w101 (p:Int) (k:Int)) (fun n102 (hn103:n23≤n102) => ?_)
  refine FD 3 0 [] [[o0,(an 3 2)]] [Qb (z+1),Qb (z+1),Qb (z+1)] [(CW z)] ⟨w,n102,[(Ak w),(GK z c),(Sm z p k),(GU z y16)]⟩ rfl ⟨rfl,rfl,rfl,Ag⟩ ?_
  refine AX [.at 2,.at 2,.at 2] [Qb (z+1),Qb (z+1),Qb (z+1)] (.agg #[i6 409,Ac p,Ac k]) ⟨rfl,rfl,rfl,Ag⟩ ?_
  intro w104 hw104
  refine⟨congrArg Ending.returned (?_:Value.agg #[i6 409,Ac p,Ac k] = .agg (Ai.arr (Fe c p k))),BC hw104⟩
  have hq:Fe c p k=_:=QH (by have ek:Dk c p k=y16:=(by dsimp only[Dk];rw[←hy8,←hy16]);rw[ek];unfold L9 win;simp;omega)
  exact(congrArg (fun t=>Value.agg (Ai.arr t)) hq).symm
 have hd105:=Jn h20
 refine BQ 5 2 [1] [[(ov (.bool true)),o0,o0,o0,o0,o0,o0,o0,o0],[o0,o0]] [Value.bool (!(win y16.C9 0 255))=Value.bool true] [(CW z),(57,Ac p),(58,Ac k)] rfl ⟨by simp[h20],Ag⟩ ?_
 refine Bz 96 #[(Ac p),Ac k] (some 59) (.agg #[(Ac p),Ac k]) (fun w106 hw106=>EH w106 (p:Int) (k:Int)) (fun n107 (hn108:n18≤n107) => ?_)
 refine FD 3 0 [] [[o0,(an 3 2)]] [Qb (z+1),Qb (z+1),Qb (z+1)] [(CW z)] ⟨w,n107,[(Ak w),(GK z c),(Sm z p k),(GU z y16)]⟩ rfl ⟨rfl,rfl,rfl,Ag⟩ ?_
 refine AX [.at 2,.at 2,.at 2] [Qb (z+1),Qb (z+1),Qb (z+1)] (.agg #[i6 409,Ac p,Ac k]) ⟨rfl,rfl,rfl,Ag⟩ ?_
 intro w109 hw109
 refine⟨congrArg Ending.returned (?_:Value.agg #[i6 409,Ac p,Ac k] = .agg (Ai.arr (Fe c p k))),BC hw109⟩
 have hq:Fe c p k=_:=QH (by have ek:Dk c p k=y16:=(by dsimp only[Dk];rw[←hy8,←hy16]);rw[ek];unfold L9 win;simp;omega)
 exact(congrArg (fun t=>Value.agg (Ai.arr t)) hq).symm
def Em(o:Ai)(f:Nat→Ai)(n:Nat):Ai:=AV (o :: (List.range n).map f)
theorem XU{a b:List Ai}:AV (a++b)=if AV a=BU then AV b else AV a:=by
 induction a with
 | nil=>rw[List.nil_append,if_pos (show AV []=BU from rfl)]
 | cons x r ih =>
  show(if x=BU then AV (r++b)else x)=if(if x=BU then AV r else x)=BU then AV b else(if x=BU then AV r else x)
  by_cases h:x=BU
  ·rw[if_pos h,if_pos h];exact ih
  rw[if_neg h,if_neg h,if_neg h]
theorem XE(x:Ai):AV [x]=x:=by
 unfold AV
 by_cases h:x=BU
 ·rw[if_pos h,h];rfl
 rw[if_neg h]
theorem Oo(o:Ai)(f:Nat→Ai):Em o f 0=o:=XE o
theorem Ob{o:Ai}{f:Nat→Ai}{n:Nat}(h:Em o f n=BU):Em o f (n+1)=f n:=by
 unfold Em at h ⊢
 rw[List.range_succ,List.map_append,←List.cons_append,XU,if_pos h]
 exact XE _
theorem KN{o:Ai}{f:Nat→Ai}{k:Nat}(h:Em o f k≠BU):∀ {n:Nat},k≤n→Em o f n=Em o f k
 | 0,hn=>by rw[Nat.le_zero.1 hn]
 | n+1,hn=>by
  by_cases e:k=n+1
  ·rw[e]
  have ih:=KN h (n:=n) (by omega)
  have h2:Em o f n≠BU:=by rw[ih];exact h
  unfold Em at h2 ih ⊢
  rw[List.range_succ,List.map_append,←List.cons_append,XU,if_neg h2]
  exact ih
theorem KL{o:Ai}{f:Nat→Ai}{n:Nat}(h:Em o f n=BU):o=BU∧∀ i,i<n→f i=BU:=by
 constructor
 ·by_cases e:o=BU
  ·exact e
  have h1:=KN (f:=f) (k:=0) (by rw[Oo];exact e) (Nat.zero_le n)
  rw[Oo,h]at h1;exact h1.symm
 intro i hi
 by_cases e1:Em o f i=BU
 ·by_cases e2:f i=BU
  ·exact e2
  have h3:=Ob e1
  have h4:=KN (k:=i+1) (by rw[h3];exact e2) (show i+1≤n by omega)
  rw[h,h3]at h4;exact h4.symm
 have h4:=KN e1 (show i≤n by omega)
 rw[h]at h4;exact absurd h4.symm e1
def GY(c:Aj)(p:Nat):List Ai:=[Ae (Az c p) 405 ⟨(p:Int), -1⟩,Ae (win (ES c p).Fh 0 2&&win (ES c p).Bf 0 15) 406 ⟨(p:Int), -1⟩,Ae (win (ES c p).EU 0 16&&win (ES c p).AA 0 16) 407 ⟨(p:Int), -1⟩,Ae (win ((ES c p).Ah.xs.length:Nat) 1 8) 408 ⟨(p:Int), -1⟩]
def Ik(c:Aj)(p:Nat):Ai:=Em (AV (GY c p)) (Fe c p) (ES c p).Ah.xs.length
def Hq(c:Aj)(p:Nat):List Ai:=[Ae (win (ES c p).Entry 0 4095&&F9 (ES c p)) 412 ⟨(p:Int), -1⟩,Ae (decide ((ES c p).AB.xs.length≤8)) 413 ⟨(p:Int), -1⟩]
def JU(c:Aj)(p k:Nat):Ai:=Ae (win (WJ c p k).Channel 0 ((c.Am.xs.length:Nat) - 1)) 414 ⟨(p:Int),(k:Int)⟩
def DK(c:Aj)(p:Nat):Ai:=if Ik c p=BU then Em (AV (Hq c p)) (JU c p) (ES c p).AB.xs.length else Ik c p
theorem Gn{b:Bool}{e:Int}{w:Hy}(he:e≠0):Ae b e w=BU↔b=true:=by
 unfold Ae BU
 cases b
 ·simp[he]
 simp
theorem MR{c:Aj}{p:Nat}(h:DK c p=BU):Ik c p=BU:=by
 unfold DK at h
 by_cases hb:Ik c p=BU
 ·exact hb
 rw[if_neg hb]at h;exact absurd h hb
theorem RN{c:Aj}{p:Nat}(hF:c.Frames≤1024)(h:Ik c p=BU):∀ n,n<(ES c p).Ah.xs.length→Bd (Dk c p n):=fun n hn=>XP hF (Si ((KL h).2 n hn))
theorem bd_all{c:Aj}{p k:Nat}(hF:1≤c.Frames∧c.Frames≤1024)(hpf:∀ q,q<p→DK c q=BU)(hk:∀ i,i<k→Fe c p i=BU):∀ q n,q≤p→n<(gd c.Aa.xs q).Ah.xs.length→(q<p∨n<k)→Bd (Dk c q n):=fun q n hq hn h=>by
 by_cases e:q<p
 ·exact RN hF.2 (MR (hpf q e)) n hn
 have e2:q=p:=by omega
 subst e2
 exact XP hF.2 (Si (hk n (by omega)))
section
variable (n35:Nat)(c:Aj)(p:Nat)(y8:Ar)(b43 n32:Nat)(n78 b86:Nat)(n75 n123:Nat)(b131 n120:Nat)(n165 b173:Nat)(n162 n209:Nat)(n220 n232:Nat)(n242 b36:Nat)(b42 b17:Nat)(b79 b85:Nat)(b61 b124:Nat)(b130 b106:Nat)(b166 b172:Nat)(b149 b6:Nat)(k z:Nat)(w:World)(y260:DF)
abbrev IE:=bk n35 #[i6 ((Ae (Az c p) 405 ⟨(p:Int), -1⟩).e),i6 ((Ae (Az c p) 405 ⟨(p:Int), -1⟩).Af.First),i6 ((Ae (Az c p) 405 ⟨(p:Int), -1⟩).Af.Second),i6 ((Ae (win y8.Bf 0 15) 406 ⟨(p:Int), -1⟩).e),i6 ((Ae (win y8.Bf 0 15) 406 ⟨(p:Int), -1⟩).Af.First),i6 ((Ae (win y8.Bf 0 15) 406 ⟨(p:Int), -1⟩).Af.Second),i6 ((Ae (win y8.AA 0 16) 407 ⟨(p:Int), -1⟩).e),i6 ((Ae (win y8.AA 0 16) 407 ⟨(p:Int), -1⟩).Af.First),i6 ((Ae (win y8.AA 0 16) 407 ⟨(p:Int), -1⟩).Af.Second),i6 ((Ae (win (y8.Ah.xs.length:Int) 1 8) 408 ⟨(p:Int), -1⟩).e),i6 ((Ae (win (y8.Ah.xs.length:Int) 1 8) 408 ⟨(p:Int), -1⟩).Af.First),i6 ((Ae (win (y8.Ah.xs.length:Int) 1 8) 408 ⟨(p:Int), -1⟩).Af.Second)] 111
abbrev IK:=bk b43 #[i6 ((Ae (Az c p) 405 ⟨(p:Int), -1⟩).e),i6 ((Ae (Az c p) 405 ⟨(p:Int), -1⟩).Af.First),i6 ((Ae (Az c p) 405 ⟨(p:Int), -1⟩).Af.Second),i6 ((Ae (win y8.Bf 0 15) 406 ⟨(p:Int), -1⟩).e),i6 ((Ae (win y8.Bf 0 15) 406 ⟨(p:Int), -1⟩).Af.First),i6 ((Ae (win y8.Bf 0 15) 406 ⟨(p:Int), -1⟩).Af.Second),i6 ((Ae (win y8.AA 0 16) 407 ⟨(p:Int), -1⟩).e),i6 ((Ae (win y8.AA 0 16) 407 ⟨(p:Int), -1⟩).Af.First),i6 ((Ae (win y8.AA 0 16) 407 ⟨(p:Int), -1⟩).Af.Second),i6 ((Ae (win (y8.Ah.xs.length:Int) 1 8) 408 ⟨(p:Int), -1⟩).e),i6 ((Ae (win (y8.Ah.xs.length:Int) 1 8) 408 ⟨(p:Int), -1⟩).Af.First),i6 ((Ae (win (y8.Ah.xs.length:Int) 1 8) 408 ⟨(p:Int), -1⟩).Af.Second)] 111
abbrev KX:=bk n32 #[i6 ((Ae (Az c p) 405 ⟨(p:Int), -1⟩).e),i6 ((Ae (Az c p) 405 ⟨(p:Int), -1⟩).Af.First),i6 ((Ae (Az c p) 405 ⟨(p:Int), -1⟩).Af.Second),i6 ((Ae (win y8.Bf 0 15) 406 ⟨(p:Int), -1⟩).e),i6 ((Ae (win y8.Bf 0 15) 406 ⟨(p:Int), -1⟩).Af.First),i6 ((Ae (win y8.Bf 0 15) 406 ⟨(p:Int), -1⟩).Af.Second),i6 ((Ae (win y8.AA 0 16) 407 ⟨(p:Int), -1⟩).e),i6 ((Ae (win y8.AA 0 16) 407 ⟨(p:Int), -1⟩).Af.First),i6 ((Ae (win y8.AA 0 16) 407 ⟨(p:Int), -1⟩).Af.Second),i6 ((Ae (win (y8.Ah.xs.length:Int) 1 8) 408 ⟨(p:Int), -1⟩).e),i6 ((Ae (win (y8.Ah.xs.length:Int) 1 8) 408 ⟨(p:Int), -1⟩).Af.First),i6 ((Ae (win (y8.Ah.xs.length:Int) 1 8) 408 ⟨(p:Int), -1⟩).Af.Second)] 111
abbrev JR:=bk n78 #[i6 ((Ae (Az c p) 405 ⟨(p:Int), -1⟩).e),i6 ((Ae (Az c p) 405 ⟨(p:Int), -1⟩).Af.First),i6 ((Ae (Az c p) 405 ⟨(p:Int), -1⟩).Af.Second),i6 ((Ae (win y8.Bf 0 15) 406 ⟨(p:Int), -1⟩).e),i6 ((Ae (win y8.Bf 0 15) 406 ⟨(p:Int), -1⟩).Af.First),i6 ((Ae (win y8.Bf 0 15) 406 ⟨(p:Int), -1⟩).Af.Second),i6 ((Ae false 407 ⟨(p:Int), -1⟩).e),i6 ((Ae false 407 ⟨(p:Int), -1⟩).Af.First),i6 ((Ae false 407 ⟨(p:Int), -1⟩).Af.Second),i6 ((Ae (win (y8.Ah.xs.length:Int) 1 8) 408 ⟨(p:Int), -1⟩).e),i6 ((Ae (win (y8.Ah.xs.length:Int) 1 8) 408 ⟨(p:Int), -1⟩).Af.First),i6 ((Ae (win (y8.Ah.xs.length:Int) 1 8) 408 ⟨(p:Int), -1⟩).Af.Second)] 111
abbrev KR:=bk b86 #[i6 ((Ae (Az c p) 405 ⟨(p:Int), -1⟩).e),i6 ((Ae (Az c p) 405 ⟨(p:Int), -1⟩).Af.First),i6 ((Ae (Az c p) 405 ⟨(p:Int), -1⟩).Af.Second),i6 ((Ae (win y8.Bf 0 15) 406 ⟨(p:Int), -1⟩).e),i6 ((Ae (win y8.Bf 0 15) 406 ⟨(p:Int), -1⟩).Af.First),i6 ((Ae (win y8.Bf 0 15) 406 ⟨(p:Int), -1⟩).Af.Second),i6 ((Ae false 407 ⟨(p:Int), -1⟩).e),i6 ((Ae false 407 ⟨(p:Int), -1⟩).Af.First),i6 ((Ae false 407 ⟨(p:Int), -1⟩).Af.Second),i6 ((Ae (win (y8.Ah.xs.length:Int) 1 8) 408 ⟨(p:Int), -1⟩).e),i6 ((Ae (win (y8.Ah.xs.length:Int) 1 8) 408 ⟨(p:Int), -1⟩).Af.First),i6 ((Ae (win (y8.Ah.xs.length:Int) 1 8) 408 ⟨(p:Int), -1⟩).Af.Second)] 111
abbrev IL:=bk n75 #[i6 ((Ae (Az c p) 405 ⟨(p:Int), -1⟩).e),i6 ((Ae (Az c p) 405 ⟨(p:Int), -1⟩).Af.First),i6 ((Ae (Az c p) 405 ⟨(p:Int), -1⟩).Af.Second),i6 ((Ae (win y8.Bf 0 15) 406 ⟨(p:Int), -1⟩).e),i6 ((Ae (win y8.Bf 0 15) 406 ⟨(p:Int), -1⟩).Af.First),i6 ((Ae (win y8.Bf 0 15) 406 ⟨(p:Int), -1⟩).Af.Second),i6 ((Ae false 407 ⟨(p:Int), -1⟩).e),i6 ((Ae false 407 ⟨(p:Int), -1⟩).Af.First),i6 ((Ae false 407 ⟨(p:Int), -1⟩).Af.Second),i6 ((Ae (win (y8.Ah.xs.length:Int) 1 8) 408 ⟨(p:Int), -1⟩).e),i6 ((Ae (win (y8.Ah.xs.length:Int) 1 8) 408 ⟨(p:Int), -1⟩).Af.First),i6 ((Ae (win (y8.Ah.xs.length:Int) 1 8) 408 ⟨(p:Int), -1⟩).Af.Second)] 111
abbrev Jy:=bk n123 #[i6 ((Ae (Az c p) 405 ⟨(p:Int), -1⟩).e),i6 ((Ae (Az c p) 405 ⟨(p:Int), -1⟩).Af.First),i6 ((Ae (Az c p) 405 ⟨(p:Int), -1⟩).Af.Second),i6 ((Ae false 406 ⟨(p:Int), -1⟩).e),i6 ((Ae false 406 ⟨(p:Int), -1⟩).Af.First),i6 ((Ae false 406 ⟨(p:Int), -1⟩).Af.Second),i6 ((Ae (win y8.AA 0 16) 407 ⟨(p:Int), -1⟩).e),i6 ((Ae (win y8.AA 0 16) 407 ⟨(p:Int), -1⟩).Af.First),i6 ((Ae (win y8.AA 0 16) 407 ⟨(p:Int), -1⟩).Af.Second),i6 ((Ae (win (y8.Ah.xs.length:Int) 1 8) 408 ⟨(p:Int), -1⟩).e),i6 ((Ae (win (y8.Ah.xs.length:Int) 1 8) 408 ⟨(p:Int), -1⟩).Af.First),i6 ((Ae (win (y8.Ah.xs.length:Int) 1 8) 408 ⟨(p:Int), -1⟩).Af.Second)] 111
abbrev IA:=bk b131 #[i6 ((Ae (Az c p) 405 ⟨(p:Int), -1⟩).e),i6 ((Ae (Az c p) 405 ⟨(p:Int), -1⟩).Af.First),i6 ((Ae (Az c p) 405 ⟨(p:Int), -1⟩).Af.Second),i6 ((Ae false 406 ⟨(p:Int), -1⟩).e),i6 ((Ae false 406 ⟨(p:Int), -1⟩).Af.First),i6 ((Ae false 406 ⟨(p:Int), -1⟩).Af.Second),i6 ((Ae (win y8.AA 0 16) 407 ⟨(p:Int), -1⟩).e),i6 ((Ae (win y8.AA 0 16) 407 ⟨(p:Int), -1⟩).Af.First),i6 ((Ae (win y8.AA 0 16) 407 ⟨(p:Int), -1⟩).Af.Second),i6 ((Ae (win (y8.Ah.xs.length:Int) 1 8) 408 ⟨(p:Int), -1⟩).e),i6 ((Ae (win (y8.Ah.xs.length:Int) 1 8) 408 ⟨(p:Int), -1⟩).Af.First),i6 ((Ae (win (y8.Ah.xs.length:Int) 1 8) 408 ⟨(p:Int), -1⟩).Af.Second)] 111
abbrev SG:=bk n120 #[i6 ((Ae (Az c p) 405 ⟨(p:Int), -1⟩).e),i6 ((Ae (Az c p) 405 ⟨(p:Int), -1⟩).Af.First),i6 ((Ae (Az c p) 405 ⟨(p:Int), -1⟩).Af.Second),i6 ((Ae false 406 ⟨(p:Int), -1⟩).e),i6 ((Ae false 406 ⟨(p:Int), -1⟩).Af.First),i6 ((Ae false 406 ⟨(p:Int), -1⟩).Af.Second),i6 ((Ae (win y8.AA 0 16) 407 ⟨(p:Int), -1⟩).e),i6 ((Ae (win y8.AA 0 16) 407 ⟨(p:Int), -1⟩).Af.First),i6 ((Ae (win y8.AA 0 16) 407 ⟨(p:Int), -1⟩).Af.Second),i6 ((Ae (win (y8.Ah.xs.length:Int) 1 8) 408 ⟨(p:Int), -1⟩).e),i6 ((Ae (win (y8.Ah.xs.length:Int) 1 8) 408 ⟨(p:Int), -1⟩).Af.First),i6 ((Ae (win (y8.Ah.xs.length:Int) 1 8) 408 ⟨(p:Int), -1⟩).Af.Second)] 111
abbrev UF:=bk n165 #[i6 ((Ae (Az c p) 405 ⟨(p:Int), -1⟩).e),i6 ((Ae (Az c p) 405 ⟨(p:Int), -1⟩).Af.First),i6 ((Ae (Az c p) 405 ⟨(p:Int), -1⟩).Af.Second),i6 ((Ae false 406 ⟨(p:Int), -1⟩).e),i6 ((Ae false 406 ⟨(p:Int), -1⟩).Af.First),i6 ((Ae false 406 ⟨(p:Int), -1⟩).Af.Second),i6 ((Ae false 407 ⟨(p:Int), -1⟩).e),i6 ((Ae false 407 ⟨(p:Int), -1⟩).Af.First),i6 ((Ae false 407 ⟨(p:Int), -1⟩).Af.Second),i6 ((Ae (win (y8.Ah.xs.length:Int) 1 8) 408 ⟨(p:Int), -1⟩).e),i6 ((Ae (win (y8.Ah.xs.length:Int) 1 8) 408 ⟨(p:Int), -1⟩).Af.First),i6 ((Ae (win (y8.Ah.xs.length:Int) 1 8) 408 ⟨(p:Int), -1⟩).Af.Second)] 111
abbrev TV:=bk b173 #[i6 ((Ae (Az c p) 405 ⟨(p:Int), -1⟩).e),i6 ((Ae (Az c p) 405 ⟨(p:Int), -1⟩).Af.First),i6 ((Ae (Az c p) 405 ⟨(p:Int), -1⟩).Af.Second),i6 ((Ae false 406 ⟨(p:Int), -1⟩).e),i6 ((Ae false 406 ⟨(p:Int), -1⟩).Af.First),i6 ((Ae false 406 ⟨(p:Int), -1⟩).Af.Second),i6 ((Ae false 407 ⟨(p:Int), -1⟩).e),i6 ((Ae false 407 ⟨(p:Int), -1⟩).Af.First),i6 ((Ae false 407 ⟨(p:Int), -1⟩).Af.Second),i6 ((Ae (win (y8.Ah.xs.length:Int) 1 8) 408 ⟨(p:Int), -1⟩).e),i6 ((Ae (win (y8.Ah.xs.length:Int) 1 8) 408 ⟨(p:Int), -1⟩).Af.First),i6 ((Ae (win (y8.Ah.xs.length:Int) 1 8) 408 ⟨(p:Int), -1⟩).Af.Second)] 111
abbrev QX:=bk n162 #[i6 ((Ae (Az c p) 405 ⟨(p:Int), -1⟩).e),i6 ((Ae (Az c p) 405 ⟨(p:Int), -1⟩).Af.First),i6 ((Ae (Az c p) 405 ⟨(p:Int), -1⟩).Af.Second),i6 ((Ae false 406 ⟨(p:Int), -1⟩).e),i6 ((Ae false 406 ⟨(p:Int), -1⟩).Af.First),i6 ((Ae false 406 ⟨(p:Int), -1⟩).Af.Second),i6 ((Ae false 407 ⟨(p:Int), -1⟩).e),i6 ((Ae false 407 ⟨(p:Int), -1⟩).Af.First),i6 ((Ae false 407 ⟨(p:Int), -1⟩).Af.Second),i6 ((Ae (win (y8.Ah.xs.length:Int) 1 8) 408 ⟨(p:Int), -1⟩).e),i6 ((Ae (win (y8.Ah.xs.length:Int) 1 8) 408 ⟨(p:Int), -1⟩).Af.First),i6 ((Ae (win (y8.Ah.xs.length:Int) 1 8) 408 ⟨(p:Int), -1⟩).Af.Second)] 111
abbrev TE:=bk n209 #[i6 ((Ae (F9 y8) 412 ⟨(p:Int), -1⟩).e),i6 ((Ae (F9 y8) 412 ⟨(p:Int), -1⟩).Af.First),i6 ((Ae (F9 y8) 412 ⟨(p:Int), -1⟩).Af.Second),i6 ((Ae false 413 ⟨(p:Int), -1⟩).e),i6 ((Ae false 413 ⟨(p:Int), -1⟩).Af.First),i6 ((Ae false 413 ⟨(p:Int), -1⟩).Af.Second)] 111
abbrev Tv:=bk n220 #[i6 ((Ae (F9 y8) 412 ⟨(p:Int), -1⟩).e),i6 ((Ae (F9 y8) 412 ⟨(p:Int), -1⟩).Af.First),i6 ((Ae (F9 y8) 412 ⟨(p:Int), -1⟩).Af.Second),i6 ((Ae true 413 ⟨(p:Int), -1⟩).e),i6 ((Ae true 413 ⟨(p:Int), -1⟩).Af.First),i6 ((Ae true 413 ⟨(p:Int), -1⟩).Af.Second)] 111
abbrev TB:=bk n232 #[i6 ((Ae false 412 ⟨(p:Int), -1⟩).e),i6 ((Ae false 412 ⟨(p:Int), -1⟩).Af.First),i6 ((Ae false 412 ⟨(p:Int), -1⟩).Af.Second),i6 ((Ae false 413 ⟨(p:Int), -1⟩).e),i6 ((Ae false 413 ⟨(p:Int), -1⟩).Af.First),i6 ((Ae false 413 ⟨(p:Int), -1⟩).Af.Second)] 111
abbrev Ua:=bk n242 #[i6 ((Ae false 412 ⟨(p:Int), -1⟩).e),i6 ((Ae false 412 ⟨(p:Int), -1⟩).Af.First),i6 ((Ae false 412 ⟨(p:Int), -1⟩).Af.Second),i6 ((Ae true 413 ⟨(p:Int), -1⟩).e),i6 ((Ae true 413 ⟨(p:Int), -1⟩).Af.First),i6 ((Ae true 413 ⟨(p:Int), -1⟩).Af.Second)] 111
abbrev VG:Ch:= .blk b36 (.cells (Ai.arr (AV [(Ae (Az c p) 405 ⟨(p:Int), -1⟩),(Ae (win y8.Bf 0 15) 406 ⟨(p:Int), -1⟩),(Ae (win y8.AA 0 16) 407 ⟨(p:Int), -1⟩),(Ae (win (y8.Ah.xs.length:Int) 1 8) 408 ⟨(p:Int), -1⟩)])) 111 (0,0)) true
abbrev Vj:Ch:= .blk b42 (.cells (Ai.arr (AV [(Ae (Az c p) 405 ⟨(p:Int), -1⟩),(Ae (win y8.Bf 0 15) 406 ⟨(p:Int), -1⟩),(Ae (win y8.AA 0 16) 407 ⟨(p:Int), -1⟩),(Ae (win (y8.Ah.xs.length:Int) 1 8) 408 ⟨(p:Int), -1⟩)])) 111 (0,0)) true
abbrev Tt:Ch:= .blk b17 (.cells (Ai.arr (AV [(Ae (Az c p) 405 ⟨(p:Int), -1⟩),(Ae (win y8.Bf 0 15) 406 ⟨(p:Int), -1⟩),(Ae (win y8.AA 0 16) 407 ⟨(p:Int), -1⟩),(Ae (win (y8.Ah.xs.length:Int) 1 8) 408 ⟨(p:Int), -1⟩)])) 111 (0,0)) true
abbrev Vz:Ch:= .blk b79 (.cells (Ai.arr (AV [(Ae (Az c p) 405 ⟨(p:Int), -1⟩),(Ae (win y8.Bf 0 15) 406 ⟨(p:Int), -1⟩),(Ae false 407 ⟨(p:Int), -1⟩),(Ae (win (y8.Ah.xs.length:Int) 1 8) 408 ⟨(p:Int), -1⟩)])) 111 (0,0)) true
abbrev VK:Ch:= .blk b85 (.cells (Ai.arr (AV [(Ae (Az c p) 405 ⟨(p:Int), -1⟩),(Ae (win y8.Bf 0 15) 406 ⟨(p:Int), -1⟩),(Ae false 407 ⟨(p:Int), -1⟩),(Ae (win (y8.Ah.xs.length:Int) 1 8) 408 ⟨(p:Int), -1⟩)])) 111 (0,0)) true
abbrev Vm:Ch:= .blk b61 (.cells (Ai.arr (AV [(Ae (Az c p) 405 ⟨(p:Int), -1⟩),(Ae (win y8.Bf 0 15) 406 ⟨(p:Int), -1⟩),(Ae false 407 ⟨(p:Int), -1⟩),(Ae (win (y8.Ah.xs.length:Int) 1 8) 408 ⟨(p:Int), -1⟩)])) 111 (0,0)) true
abbrev VE:Ch:= .blk b124 (.cells (Ai.arr (AV [(Ae (Az c p) 405 ⟨(p:Int), -1⟩),(Ae false 406 ⟨(p:Int), -1⟩),(Ae (win y8.AA 0 16) 407 ⟨(p:Int), -1⟩),(Ae (win (y8.Ah.xs.length:Int) 1 8) 408 ⟨(p:Int), -1⟩)])) 111 (0,0)) true
abbrev VO:Ch:= .blk b130 (.cells (Ai.arr (AV [(Ae (Az c p) 405 ⟨(p:Int), -1⟩),(Ae false 406 ⟨(p:Int), -1⟩),(Ae (win y8.AA 0 16) 407 ⟨(p:Int), -1⟩),(Ae (win (y8.Ah.xs.length:Int) 1 8) 408 ⟨(p:Int), -1⟩)])) 111 (0,0)) true
abbrev TC:Ch:= .blk b106 (.cells (Ai.arr (AV [(Ae (Az c p) 405 ⟨(p:Int), -1⟩),(Ae false 406 ⟨(p:Int), -1⟩),(Ae (win y8.AA 0 16) 407 ⟨(p:Int), -1⟩),(Ae (win (y8.Ah.xs.length:Int) 1 8) 408 ⟨(p:Int), -1⟩)])) 111 (0,0)) true
abbrev VM:Ch:= .blk b166 (.cells (Ai.arr (AV [(Ae (Az c p) 405 ⟨(p:Int), -1⟩),(Ae false 406 ⟨(p:Int), -1⟩),(Ae false 407 ⟨(p:Int), -1⟩),(Ae (win (y8.Ah.xs.length:Int) 1 8) 408 ⟨(p:Int), -1⟩)])) 111 (0,0)) true
abbrev Vb:Ch:= .blk b172 (.cells (Ai.arr (AV [(Ae (Az c p) 405 ⟨(p:Int), -1⟩),(Ae false 406 ⟨(p:Int), -1⟩),(Ae false 407 ⟨(p:Int), -1⟩),(Ae (win (y8.Ah.xs.length:Int) 1 8) 408 ⟨(p:Int), -1⟩)])) 111 (0,0)) true
abbrev V8:Ch:= .blk b149 (.cells (Ai.arr (AV [(Ae (Az c p) 405 ⟨(p:Int), -1⟩),(Ae false 406 ⟨(p:Int), -1⟩),(Ae false 407 ⟨(p:Int), -1⟩),(Ae (win (y8.Ah.xs.length:Int) 1 8) 408 ⟨(p:Int), -1⟩)])) 111 (0,0)) true
abbrev TT:Ch:= .blk b6 (.cells (Ai.arr (AV [(Ae (F9 y8) 412 ⟨(p:Int), -1⟩),(Ae false 413 ⟨(p:Int), -1⟩)])) 111 (0,0)) true
abbrev TM:Ch:= .blk b6 (.cells (Ai.arr (AV [(Ae (F9 y8) 412 ⟨(p:Int), -1⟩),(Ae true 413 ⟨(p:Int), -1⟩)])) 111 (0,0)) true
abbrev Ti:Ch:= .blk b6 (.cells (Ai.arr (AV [(Ae false 412 ⟨(p:Int), -1⟩),(Ae false 413 ⟨(p:Int), -1⟩)])) 111 (0,0)) true
abbrev Td:Ch:= .blk b6 (.cells (Ai.arr (AV [(Ae false 412 ⟨(p:Int), -1⟩),(Ae true 413 ⟨(p:Int), -1⟩)])) 111 (0,0)) true
abbrev OG:Ch:= .blk b6 (.cells (Ai.arr (Em (AV (Hq c p)) (JU c p) k)) 111 (0,0)) true
abbrev AP:=bk (z+1) #[i6 0,i6 0,i6 0] 111
abbrev Ha:=bk b6 (Ai.arr (Ik c p)) 111
abbrev AO:=bk (z+2) (Ar.arr y8) 52
abbrev AL:=bk z (Aj.arr c) 26
abbrev NS:CO:=(50,.agg (Ai.arr (AV [(Ae (Az c p) 405 ⟨(p:Int), -1⟩),(Ae (win y8.Bf 0 15) 406 ⟨(p:Int), -1⟩),(Ae (win y8.AA 0 16) 407 ⟨(p:Int), -1⟩),(Ae (win (y8.Ah.xs.length:Int) 1 8) 408 ⟨(p:Int), -1⟩)])))
abbrev NV:CO:=(50,.agg (Ai.arr (AV [(Ae (Az c p) 405 ⟨(p:Int), -1⟩),(Ae (win y8.Bf 0 15) 406 ⟨(p:Int), -1⟩),(Ae false 407 ⟨(p:Int), -1⟩),(Ae (win (y8.Ah.xs.length:Int) 1 8) 408 ⟨(p:Int), -1⟩)])))
abbrev N7:CO:=(50,.agg (Ai.arr (AV [(Ae (Az c p) 405 ⟨(p:Int), -1⟩),(Ae false 406 ⟨(p:Int), -1⟩),(Ae (win y8.AA 0 16) 407 ⟨(p:Int), -1⟩),(Ae (win (y8.Ah.xs.length:Int) 1 8) 408 ⟨(p:Int), -1⟩)])))
abbrev NL:CO:=(50,.agg (Ai.arr (AV [(Ae (Az c p) 405 ⟨(p:Int), -1⟩),(Ae false 406 ⟨(p:Int), -1⟩),(Ae false 407 ⟨(p:Int), -1⟩),(Ae (win (y8.Ah.xs.length:Int) 1 8) 408 ⟨(p:Int), -1⟩)])))
abbrev I5:CO:=(48,.agg (Ai.arr (Ae (win (y8.Ah.xs.length:Int) 1 8) 408 ⟨(p:Int), -1⟩)))
abbrev NW:CO:=(30,.agg (Ai.arr (Ae (win y8.Bf 0 15) 406 ⟨(p:Int), -1⟩)))
abbrev L6:CO:=(41,.agg (Ai.arr (Ae (win y8.AA 0 16) 407 ⟨(p:Int), -1⟩)))
abbrev Ir:CO:=(19,.agg (Ai.arr (Ae (Az c p) 405 ⟨(p:Int), -1⟩)))
abbrev NQ:CO:=(41,.agg (Ai.arr (Ae false 407 ⟨(p:Int), -1⟩)))
abbrev NE:CO:=(30,.agg (Ai.arr (Ae false 406 ⟨(p:Int), -1⟩)))
abbrev Nw:=(44,Ac y8.Ah.xs.length)
abbrev Au:=(4,pt (z+1))
abbrev Aw:=(5,pt (z+2))
abbrev Cb:=(6,pt b6)
abbrev Tj:=[(Ak w),(AL c z),(AP z),(AO y8 z),(.blk b6 (.cells (Ai.arr (Ae (win y260.Channel 0 ((c.Am.xs.length:Int) - 1)) 414 ⟨(p:Int),(k:Int)⟩)) 111 (0,0)) true)]
abbrev Hg:=[(Ak w),(AL c z),(AP z),(AO y8 z),(Ha c p b6)]
end
theorem Oh(w:World)(hL:Gz w)(c:Aj)(hc:Aj.ok Any w c)(p:Nat)(hp:p<c.Aa.xs.length)(hFr:1≤c.Frames∧c.Frames≤1024)(hpf:∀ q,q<p→DK c q=BU):Calls Tryd.prog 69 #[.agg (Aj.arr c),.int .i64 (p:Int)] w fun e w'=>e = .returned (.agg (Ai.arr (DK c p)))∧CJ (fun _=>False) w w':=by
 obtain⟨z,hz⟩:∃ z,z=w.heap.size:=⟨_,rfl⟩
 refine BP (args:=[.agg (Aj.arr c),Ac p]) 118 ⟨w,z,[(Ak w)]⟩ Tryd.func69 rfl (by kernel_rfl) (by kernel_rfl) (EQ hz) ?_
 have hpl:=hc.Aa.1.len;have hpc:=hc.Aa.1.le;have hrl:=(hc.Aa.2 p hp).Ah.1.len;have hrc:=(hc.Aa.2 p hp).Ah.1.le;have hpp:=(hc.Aa.2 p hp).AB.1.len;have hcl:=hc.Am.1.len
 refine DZ [0,1] [(0,.agg (Aj.arr c)),(1,Ac p)] ?_
 refine q_c 5 0 [] [[o0,o0]] [] [(1,Ac p),(2,pt z),(Au z)] ⟨w,z+2,[(Ak w),(AL c z),(AP z)]⟩ rfl Ag ?_
 obtain⟨b1,o2,ha3,hF5,hc4⟩:=(hc.Aa).1.all (show 0<c.Aa.xs.length by omega)
 replace ha3:c.Aa.a=some ⟨b1,o2,none⟩:=ha3
 have hc6:=hc4 p (show p<c.Aa.xs.length by omega)
 have he7:=(hc.Aa).2 p (show p<c.Aa.xs.length by omega)
 obtain⟨y8,hy8⟩:∃ y_,y_=gd c.Aa.xs p:=⟨_,rfl⟩
 rw[←hy8]at he7 hc6
 (try rw[←hy8]at hrl hrc hpp)
 refine q_c 3 0 [] [[o0,(Jk 1 b1 o2 c.Aa),o0,(oi p),(ol 0 (Ar.arr y8)),o0,(an 8 3)]] [Qb z,IQ b1 o2 c.Aa,Ed p,p<c.Aa.xs.length,Dt,Ie w b1 (o2+p*8) (Ar.arr y8),Qb (z+2),Qb (z+2),Qb (z+2),Qb (z+2),Qb (z+2),Qb (z+2),Qb (z+2),Qb (z+2)] [(1,Ac p),(2,pt z),(Au z),(Aw z)] ⟨w,z+3,[(Ak w),(AL c z),(AP z),(AO y8 z)]⟩ rfl ⟨rfl,IP ha3,rfl,(by omega),rfl,EL hc6,rfl,rfl,rfl,rfl,rfl,rfl,rfl,rfl,Ag⟩ ?_
 refine RD (fun a w'=>∃ (n9:Nat) (b6:Nat),z+3≤n9∧St 118 [(1,Ac p),(2,pt z),(Au z),(Aw z),(Cb b6)] [] ⟨w,n9,[(Ak w),(AL c z),(AP z),(AO y8 z),(.blk b6 (.cells (Ai.arr (AV (GY c p))) 111 (0,0)) true)]⟩ a w') ?_ ?_
 ·by_cases h11:(win y8.Fh 0 2)=true
  ·have hd12:=Es h11
   by_cases h13:(win y8.EU 0 16)=true
   ·have hd14:=Es h13
    refine DN 38 [0,1,2,3] [(Ak w),(AL c z),(AP z),(AO y8 z)] rfl rfl ?_
    refine Dc [(0,(an 7 1)),(1,o0),(3,o0),(6,o0),(7,(a1 3)),(14,o0),(17,o0),(18,(a1 3)),(25,o0),(28,o0),(29,(a1 3)),(30,o0),(32,o0)] [1,2,4,5,14,15,17,21,28,32,39,44,46] [Qb z,Qb z,Qb z,Qb z,Qb z,Qb z,Qb z,Qb (z+2),Qb (z+2),Qb (z+2)] [true,true,false,true,false,false,true,true,false,false,false,false,false,false,true,false,false,true,true,false,false,false,false,false,false,true,false,false,true,true,true,false,true,false,false,false,false,false,false] [(1,Ac p),(2,pt z),(Au z),(Aw z),(14,.agg (Aj.arr c)),(15,Ac p),(17,Ac p),(21,i6 y8.Fh),(28,Ac p),(32,i6 y8.EU),(39,Ac p),(Nw y8),(46,Ac p)] ⟨rfl,rfl,rfl,rfl,rfl,rfl,rfl,rfl,rfl,rfl,Ag⟩ ?_
    refine Ox (fun x:{p:Nat×Nat×Nat // z+3≤p.1∧z+3≤p.2.1∧z+3≤p.2.2}=>([(1,Ac p),(2,pt z),(Au z),(Aw z),(6,pt x.1.2.2)],⟨w,x.1.1,[(Ak w),(AL c z),(AP z),(AO y8 z),(.blk x.1.2.1 (.cells #[i6 ((Ae (Az c p) 405 ⟨(p:Int), -1⟩).e),i6 ((Ae (Az c p) 405 ⟨(p:Int), -1⟩).Af.First),i6 ((Ae (Az c p) 405 ⟨(p:Int), -1⟩).Af.Second),i6 ((Ae (win y8.Bf 0 15) 406 ⟨(p:Int), -1⟩).e),i6 ((Ae (win y8.Bf 0 15) 406 ⟨(p:Int), -1⟩).Af.First),i6 ((Ae (win y8.Bf 0 15) 406 ⟨(p:Int), -1⟩).Af.Second),i6 ((Ae (win y8.AA 0 16) 407 ⟨(p:Int), -1⟩).e),i6 ((Ae (win y8.AA 0 16) 407 ⟨(p:Int), -1⟩).Af.First),i6 ((Ae (win y8.AA 0 16) 407 ⟨(p:Int), -1⟩).Af.Second),i6 ((Ae (win (y8.Ah.xs.length:Int) 1 8) 408 ⟨(p:Int), -1⟩).e),i6 ((Ae (win (y8.Ah.xs.length:Int) 1 8) 408 ⟨(p:Int), -1⟩).Af.First),i6 ((Ae (win (y8.Ah.xs.length:Int) 1 8) 408 ⟨(p:Int), -1⟩).Af.Second)] 111 (0,0)) true),(.blk x.1.2.2 (.cells (Ai.arr (AV [(Ae (Az c p) 405 ⟨(p:Int), -1⟩),(Ae (win y8.Bf 0 15) 406 ⟨(p:Int), -1⟩),(Ae (win y8.AA 0 16) 407 ⟨(p:Int), -1⟩),(Ae (win (y8.Ah.xs.length:Int) 1 8) 408 ⟨(p:Int), -1⟩)])) 111 (0,0)) true)]⟩)) (fun hK => ?_) ?_
    ·refine Me 37 6 [.cl 2 (.bool (Az c p)),.cl 4 (.agg #[(Ac p),i6 (-1)]),.cl 5 (.agg (Ai.arr (Ae (Az c p) 405 ⟨(p:Int), -1⟩))),.cl 8 (.bool (win y8.Fh 0 2)),.tk 9 (ov (.bool true)),.tk 10 o0,.tk 11 (a1 3),.cl 12 (.bool (win y8.Bf 0 15)),.tk 13 o0,.cl 15 (.agg #[(Ac p),i6 (-1)]),.cl 16 (.agg (Ai.arr (Ae (win y8.Bf 0 15) 406 ⟨(p:Int), -1⟩))),.cl 19 (.bool (win y8.EU 0 16)),.tk 20 (ov (.bool true)),.tk 21 o0,.tk 22 (a1 3),.cl 23 (.bool (win y8.AA 0 16)),.tk 24 o0,.cl 26 (.agg #[(Ac p),i6 (-1)]),.cl 27 (.agg (Ai.arr (Ae (win y8.AA 0 16) 407 ⟨(p:Int), -1⟩))),.cl 31 (.bool (win (y8.Ah.xs.length:Int) 1 8)),.cl 33 (.agg #[(Ac p),i6 (-1)]),.cl 34 (.agg (Ai.arr (Ae (win (y8.Ah.xs.length:Int) 1 8) 408 ⟨(p:Int), -1⟩)))] [1,2,4,5,19,30,41,48] [(92,#[.agg (Aj.arr c),Ac p],.bool (Az c p)),(93,#[(Ac p)],.agg #[(Ac p),i6 (-1)]),(62,#[.bool (Az c p),i6 405,.agg #[(Ac p),i6 (-1)]],.agg (Ai.arr (Ae (Az c p) 405 ⟨(p:Int), -1⟩))),(63,#[i6 y8.Fh,i6 0,i6 2],.bool (win y8.Fh 0 2)),(63,#[i6 y8.Bf,i6 0,i6 15],.bool (win y8.Bf 0 15)),(93,#[(Ac p)],.agg #[(Ac p),i6 (-1)]),(62,#[.bool (win y8.Bf 0 15),i6 406,.agg #[(Ac p),i6 (-1)]],.agg (Ai.arr (Ae (win y8.Bf 0 15) 406 ⟨(p:Int), -1⟩))),(63,#[i6 y8.EU,i6 0,i6 16],.bool (win y8.EU 0 16)),(63,#[i6 y8.AA,i6 0,i6 16],.bool (win y8.AA 0 16)),(93,#[(Ac p)],.agg #[(Ac p),i6 (-1)]),(62,#[.bool (win y8.AA 0 16),i6 407,.agg #[(Ac p),i6 (-1)]],.agg (Ai.arr (Ae (win y8.AA 0 16) 407 ⟨(p:Int), -1⟩))),(63,#[(Ac y8.Ah.xs.length),i6 1,i6 8],.bool (win (y8.Ah.xs.length:Int) 1 8)),(93,#[(Ac p)],.agg #[(Ac p),i6 (-1)]),(62,#[.bool (win (y8.Ah.xs.length:Int) 1 8),i6 408,.agg #[(Ac p),i6 (-1)]],.agg (Ai.arr (Ae (win (y8.Ah.xs.length:Int) 1 8) 408 ⟨(p:Int), -1⟩)))] (Dj 35 4) [Value.bool (win y8.Fh 0 2)=Value.bool true,Qb (z+2),Value.bool (win y8.EU 0 16)=Value.bool true,Qb (z+2)] [(1,Ac p),(2,pt z),(Au z),(Aw z),(Ir c p),(NW p y8),(L6 p y8),(I5 p y8)] (.cells #[i6 0,i6 0,i6 0] 111 (0,0)) [0,1,2,3] ⟨(congrArg Value.bool h11),rfl,(congrArg Value.bool h13),rfl,Ag⟩ ⟨fun w18 hw18=>OQ w18 c (hc.ext (hw18.ext rfl) (fun _ h=>h)) p hp,fun w19 hw19=>Cm w19 (p:Int),fun w20 hw20=>AQ w20 (hL.ext (hw20.ext rfl)) (Az c p) 405 (p:Int) (-1),fun w21 hw21=>Bl w21 y8.Fh 0 2,fun w22 hw22=>Bl w22 y8.Bf 0 15,fun w23 hw23=>Cm w23 (p:Int),fun w24 hw24=>AQ w24 (hL.ext (hw24.ext rfl)) (win y8.Bf 0 15) 406 (p:Int) (-1),fun w25 hw25=>Bl w25 y8.EU 0 16,fun w26 hw26=>Bl w26 y8.AA 0 16,fun w27 hw27=>Cm w27 (p:Int),fun w28 hw28=>AQ w28 (hL.ext (hw28.ext rfl)) (win y8.AA 0 16) 407 (p:Int) (-1),fun w29 hw29=>Bl w29 (y8.Ah.xs.length:Int) 1 8,fun w30 hw30=>Cm w30 (p:Int),fun w31 hw31=>AQ w31 (hL.ext (hw31.ext rfl)) (win (y8.Ah.xs.length:Int) 1 8) 408 (p:Int) (-1),Ag⟩ ?_ (fun hv34 n32 hn33 => ?_)
     ·rintro⟨⟨n35,b36⟩,hb37⟩
      simp only at hb37
      refine Bo 35 ?_
      refine Bq o0 [6,1,2,4,5,49] [] [(6,pt b36),(1,Ac p),(2,pt z),(Au z),(Aw z),(49,.slice (some ⟨n35,0,none⟩) 4 4)] ⟨w,n35+1,[(Ak w),(AL c z),(AP z),(AO y8 z),(bk b36 #[i6 0,i6 0,i6 0] 111),(IE n35 c p y8)]⟩ [0,1,2,3] Ag (.inr rfl) ?_
      refine Bo 36 ?_
      refine EX 91 #[.slice (some ⟨n35,0,none⟩) 4 4] (some 50) (.agg (Ai.arr (AV [(Ae (Az c p) 405 ⟨(p:Int), -1⟩),(Ae (win y8.Bf 0 15) 406 ⟨(p:Int), -1⟩),(Ae (win y8.AA 0 16) 407 ⟨(p:Int), -1⟩),(Ae (win (y8.Ah.xs.length:Int) 1 8) 408 ⟨(p:Int), -1⟩)]))) [6,1,2,4,5,50] [(6,pt b36),(1,Ac p),(2,pt z),(Au z),(Aw z),(NS c p y8)] [0,1,2,3] (fun w38 hw38=>CE w38 (hL.ext (hw38.ext rfl)) ⟨some ⟨n35,0,none⟩,4,[(Ae (Az c p) 405 ⟨(p:Int), -1⟩),(Ae (win y8.Bf 0 15) 406 ⟨(p:Int), -1⟩),(Ae (win y8.AA 0 16) 407 ⟨(p:Int), -1⟩),(Ae (win (y8.Ah.xs.length:Int) 1 8) 408 ⟨(p:Int), -1⟩)]⟩ (Dy hw38 (i:=5) [(Ae (Az c p) 405 ⟨(p:Int), -1⟩),(Ae (win y8.Bf 0 15) 406 ⟨(p:Int), -1⟩),(Ae (win y8.AA 0 16) 407 ⟨(p:Int), -1⟩),(Ae (win (y8.Ah.xs.length:Int) 1 8) 408 ⟨(p:Int), -1⟩)]) (show 4≤1000 by decide)) (fun n39 hn40 => ?_)
      replace hn40:n35+1≤n39:=hn40
      refine Bo 38 ?_
      refine Bq (an 3 4) [6,1,2,4,5] [Qb b36,Qb b36,Qb b36] [(6,pt b36),(1,Ac p),(2,pt z),(Au z),(Aw z)] ⟨w,n39,[(Ak w),(AL c z),(AP z),(AO y8 z),(VG c p y8 b36),(IE n35 c p y8)]⟩ [] ⟨rfl,rfl,rfl,Ag⟩ (.inl rfl) ?_
      refine D8 39 [0,1,2,3,4,5] [(Ak w),(AL c z),(AP z),(AO y8 z),(VG c p y8 b36),(IE n35 c p y8)] rfl rfl ?_
      refine CV ?_
      refine BR [1,2,4,5,6] [(1,Ac p),(2,pt z),(Au z),(Aw z),(6,pt b36)] ?_
      refine Cc [0,1,2,3,5,4] [(Ak w),(AL c z),(AP z),(AO y8 z),(IE n35 c p y8),(VG c p y8 b36)] rfl rfl ?_
      exact hK ⟨(n39,n35,b36),by first | omega | (dsimp only;omega)⟩
     replace hn33:z+3≤n32:=hn33
     refine Kq (fun x:{p:Nat×Nat×Nat // n32≤p.1∧n32≤p.2.1∧n32≤p.2.2}=>[(1,Ac p),(2,pt z),(Au z),(Aw z),(6,pt x.1.2.1),(NS c p y8)]) (fun x=>⟨w,x.1.1,[(Ak w),(AL c z),(AP z),(AO y8 z),(.blk x.1.2.1 (.cells #[i6 0,i6 0,i6 0] 111 (0,0)) true),(.blk x.1.2.2 (.cells #[i6 ((Ae (Az c p) 405 ⟨(p:Int), -1⟩).e),i6 ((Ae (Az c p) 405 ⟨(p:Int), -1⟩).Af.First),i6 ((Ae (Az c p) 405 ⟨(p:Int), -1⟩).Af.Second),i6 ((Ae (win y8.Bf 0 15) 406 ⟨(p:Int), -1⟩).e),i6 ((Ae (win y8.Bf 0 15) 406 ⟨(p:Int), -1⟩).Af.First),i6 ((Ae (win y8.Bf 0 15) 406 ⟨(p:Int), -1⟩).Af.Second),i6 ((Ae (win y8.AA 0 16) 407 ⟨(p:Int), -1⟩).e),i6 ((Ae (win y8.AA 0 16) 407 ⟨(p:Int), -1⟩).Af.First),i6 ((Ae (win y8.AA 0 16) 407 ⟨(p:Int), -1⟩).Af.Second),i6 ((Ae (win (y8.Ah.xs.length:Int) 1 8) 408 ⟨(p:Int), -1⟩).e),i6 ((Ae (win (y8.Ah.xs.length:Int) 1 8) 408 ⟨(p:Int), -1⟩).Af.First),i6 ((Ae (win (y8.Ah.xs.length:Int) 1 8) 408 ⟨(p:Int), -1⟩).Af.Second)] 111 (0,0)) true)]⟩) 1 (Dj 38 1) ?_ (fun hv44 => ?_)
     ·rintro⟨⟨n41,b42,b43⟩,hb45⟩
      simp only at hb45
      show Wg _ _ [(1,Ac p),(2,pt z),(Au z),(Aw z),(6,pt b42),(NS c p y8)] _ ⟨w,n41,[(Ak w),(AL c z),(AP z),(AO y8 z),(bk b42 #[i6 0,i6 0,i6 0] 111),(IK c p y8 b43)]⟩ _ _ _ _ _ _ _
      refine Bo 38 ?_
      refine Bq (an 3 4) [1,2,4,5,6] [Qb b42,Qb b42,Qb b42] [(1,Ac p),(2,pt z),(Au z),(Aw z),(6,pt b42)] ⟨w,n41,[(Ak w),(AL c z),(AP z),(AO y8 z),(Vj c p y8 b42),(IK c p y8 b43)]⟩ [] ⟨rfl,rfl,rfl,Ag⟩ (.inl rfl) ?_
      refine D8 39 [0,1,2,3,4,5] [(Ak w),(AL c z),(AP z),(AO y8 z),(Vj c p y8 b42),(IK c p y8 b43)] rfl rfl ?_
      refine CV ?_
      refine BR [1,2,4,5,6] [(1,Ac p),(2,pt z),(Au z),(Aw z),(6,pt b42)] ?_
      refine Cc [0,1,2,3,5,4] [(Ak w),(AL c z),(AP z),(AO y8 z),(IK c p y8 b43),(Vj c p y8 b42)] rfl rfl ?_
      exact hK ⟨(n41,b43,b42),by first | omega | (dsimp only;omega)⟩
     refine Kq (fun x:{p:Nat×Nat×Nat // n32≤p.1∧n32≤p.2.1∧n32≤p.2.2}=>[(1,Ac p),(2,pt z),(Au z),(Aw z),(6,pt x.1.2.1),(49,.slice (some ⟨x.1.2.2,0,none⟩) 4 4)]) (fun x=>⟨w,x.1.1,[(Ak w),(AL c z),(AP z),(AO y8 z),(.blk x.1.2.1 (.cells #[i6 0,i6 0,i6 0] 111 (0,0)) true),(.blk x.1.2.2 (.cells #[i6 ((Ae (Az c p) 405 ⟨(p:Int), -1⟩).e),i6 ((Ae (Az c p) 405 ⟨(p:Int), -1⟩).Af.First),i6 ((Ae (Az c p) 405 ⟨(p:Int), -1⟩).Af.Second),i6 ((Ae (win y8.Bf 0 15) 406 ⟨(p:Int), -1⟩).e),i6 ((Ae (win y8.Bf 0 15) 406 ⟨(p:Int), -1⟩).Af.First),i6 ((Ae (win y8.Bf 0 15) 406 ⟨(p:Int), -1⟩).Af.Second),i6 ((Ae (win y8.AA 0 16) 407 ⟨(p:Int), -1⟩).e),i6 ((Ae (win y8.AA 0 16) 407 ⟨(p:Int), -1⟩).Af.First),i6 ((Ae (win y8.AA 0 16) 407 ⟨(p:Int), -1⟩).Af.Second),i6 ((Ae (win (y8.Ah.xs.length:Int) 1 8) 408 ⟨(p:Int), -1⟩).e),i6 ((Ae (win (y8.Ah.xs.length:Int) 1 8) 408 ⟨(p:Int), -1⟩).Af.First),i6 ((Ae (win (y8.Ah.xs.length:Int) 1 8) 408 ⟨(p:Int), -1⟩).Af.Second)] 111 (0,0)) true)]⟩) 2 [true,true,true,true,true,true,true,true,true,true,true,true,true,true,true,true,true,true,true,true,true,true,true,true,true,true,true,true,true,true,true,true,true,true,true,true,false,true,false] ?_ (fun hv49 => ?_)
     ·rintro⟨⟨n46,b47,b48⟩,hb50⟩
      simp only at hb50
      show Wg _ _ [(1,Ac p),(2,pt z),(Au z),(Aw z),(6,pt b47),(49,.slice (some ⟨b48,0,none⟩) 4 4)] _ ⟨w,n46,[(Ak w),(AL c z),(AP z),(AO y8 z),(bk b47 #[i6 0,i6 0,i6 0] 111),(bk b48 #[i6 ((Ae (Az c p) 405 ⟨(p:Int), -1⟩).e),i6 ((Ae (Az c p) 405 ⟨(p:Int), -1⟩).Af.First),i6 ((Ae (Az c p) 405 ⟨(p:Int), -1⟩).Af.Second),i6 ((Ae (win y8.Bf 0 15) 406 ⟨(p:Int), -1⟩).e),i6 ((Ae (win y8.Bf 0 15) 406 ⟨(p:Int), -1⟩).Af.First),i6 ((Ae (win y8.Bf 0 15) 406 ⟨(p:Int), -1⟩).Af.Second),i6 ((Ae (win y8.AA 0 16) 407 ⟨(p:Int), -1⟩).e),i6 ((Ae (win y8.AA 0 16) 407 ⟨(p:Int), -1⟩).Af.First),i6 ((Ae (win y8.AA 0 16) 407 ⟨(p:Int), -1⟩).Af.Second),i6 ((Ae (win (y8.Ah.xs.length:Int) 1 8) 408 ⟨(p:Int), -1⟩).e),i6 ((Ae (win (y8.Ah.xs.length:Int) 1 8) 408 ⟨(p:Int), -1⟩).Af.First),i6 ((Ae (win (y8.Ah.xs.length:Int) 1 8) 408 ⟨(p:Int), -1⟩).Af.Second)] 111)]⟩ _ _ _ _ _ _ _
      refine Bo 36 ?_
      refine EX 91 #[.slice (some ⟨b48,0,none⟩) 4 4] (some 50) (.agg (Ai.arr (AV [(Ae (Az c p) 405 ⟨(p:Int), -1⟩),(Ae (win y8.Bf 0 15) 406 ⟨(p:Int), -1⟩),(Ae (win y8.AA 0 16) 407 ⟨(p:Int), -1⟩),(Ae (win (y8.Ah.xs.length:Int) 1 8) 408 ⟨(p:Int), -1⟩)]))) [1,2,4,5,6,50] [(1,Ac p),(2,pt z),(Au z),(Aw z),(6,pt b47),(NS c p y8)] [0,1,2,3] (fun w51 hw51=>CE w51 (hL.ext (hw51.ext rfl)) ⟨some ⟨b48,0,none⟩,4,[(Ae (Az c p) 405 ⟨(p:Int), -1⟩),(Ae (win y8.Bf 0 15) 406 ⟨(p:Int), -1⟩),(Ae (win y8.AA 0 16) 407 ⟨(p:Int), -1⟩),(Ae (win (y8.Ah.xs.length:Int) 1 8) 408 ⟨(p:Int), -1⟩)]⟩ (Dy hw51 (i:=5) [(Ae (Az c p) 405 ⟨(p:Int), -1⟩),(Ae (win y8.Bf 0 15) 406 ⟨(p:Int), -1⟩),(Ae (win y8.AA 0 16) 407 ⟨(p:Int), -1⟩),(Ae (win (y8.Ah.xs.length:Int) 1 8) 408 ⟨(p:Int), -1⟩)]) (show 4≤1000 by decide)) (fun n52 hn53 => ?_)
      replace hn53:n46≤n52:=hn53
      refine CZ [1,2,4,5,6,50] [(1,Ac p),(2,pt z),(Au z),(Aw z),(6,pt b47),(NS c p y8)] ?_
      exact hv44 ⟨(n52,b47,b48),by first | omega | (dsimp only;omega)⟩
     refine Ij [35,37] ?_
     refine List.forall_mem_cons.2 ⟨?_,List.forall_mem_cons.2 ⟨?_,fun _ h=>absurd h List.not_mem_nil⟩⟩
     ·refine Bq o0 [1,2,4,5,49] [] [(1,Ac p),(2,pt z),(Au z),(Aw z),(49,.slice (some ⟨n32,0,none⟩) 4 4)] ⟨w,n32+1,[(Ak w),(AL c z),(AP z),(AO y8 z),(KX c p y8 n32)]⟩ [0,1,2,3] Ag (.inr rfl) ?_
      refine Ij [36,37] ?_
      refine List.forall_mem_cons.2 ⟨?_,List.forall_mem_cons.2 ⟨?_,fun _ h=>absurd h List.not_mem_nil⟩⟩
      ·refine EX 91 #[.slice (some ⟨n32,0,none⟩) 4 4] (some 50) (.agg (Ai.arr (AV [(Ae (Az c p) 405 ⟨(p:Int), -1⟩),(Ae (win y8.Bf 0 15) 406 ⟨(p:Int), -1⟩),(Ae (win y8.AA 0 16) 407 ⟨(p:Int), -1⟩),(Ae (win (y8.Ah.xs.length:Int) 1 8) 408 ⟨(p:Int), -1⟩)]))) [1,2,4,5,50] [(1,Ac p),(2,pt z),(Au z),(Aw z),(NS c p y8)] [0,1,2,3] (fun w54 hw54=>CE w54 (hL.ext (hw54.ext rfl)) ⟨some ⟨n32,0,none⟩,4,[(Ae (Az c p) 405 ⟨(p:Int), -1⟩),(Ae (win y8.Bf 0 15) 406 ⟨(p:Int), -1⟩),(Ae (win y8.AA 0 16) 407 ⟨(p:Int), -1⟩),(Ae (win (y8.Ah.xs.length:Int) 1 8) 408 ⟨(p:Int), -1⟩)]⟩ (Dy hw54 (i:=4) [(Ae (Az c p) 405 ⟨(p:Int), -1⟩),(Ae (win y8.Bf 0 15) 406 ⟨(p:Int), -1⟩),(Ae (win y8.AA 0 16) 407 ⟨(p:Int), -1⟩),(Ae (win (y8.Ah.xs.length:Int) 1 8) 408 ⟨(p:Int), -1⟩)]) (show 4≤1000 by decide)) (fun n55 hn56 => ?_)
       replace hn56:n32+1≤n55:=hn56
       refine Bo 37 ?_
       refine Bq o0 [1,2,4,5,50,6] [] [(1,Ac p),(2,pt z),(Au z),(Aw z),(NS c p y8),(6,pt n55)] ⟨w,n55+1,[(Ak w),(AL c z),(AP z),(AO y8 z),(KX c p y8 n32),(bk n55 #[i6 0,i6 0,i6 0] 111)]⟩ [0,1,2,3] Ag (.inr rfl) ?_
       refine Jl [0,1,2,3,5,4] [(Ak w),(AL c z),(AP z),(AO y8 z),(bk n55 #[i6 0,i6 0,i6 0] 111),(KX c p y8 n32)] rfl rfl ?_
       refine CZ [1,2,4,5,6,50] [(1,Ac p),(2,pt z),(Au z),(Aw z),(6,pt n55),(NS c p y8)] ?_
       exact hv44 ⟨(n55+1,n55,n32),by first | omega | (dsimp only;omega)⟩
      refine Bq o0 [1,2,4,5,49,6] [] [(1,Ac p),(2,pt z),(Au z),(Aw z),(49,.slice (some ⟨n32,0,none⟩) 4 4),(6,pt (n32+1))] ⟨w,n32+2,[(Ak w),(AL c z),(AP z),(AO y8 z),(KX c p y8 n32),(bk (n32+1) #[i6 0,i6 0,i6 0] 111)]⟩ [0,1,2,3] Ag (.inr rfl) ?_
      refine Jl [0,1,2,3,5,4] [(Ak w),(AL c z),(AP z),(AO y8 z),(bk (n32+1) #[i6 0,i6 0,i6 0] 111),(KX c p y8 n32)] rfl rfl ?_
      refine CZ [1,2,4,5,6,49] [(1,Ac p),(2,pt z),(Au z),(Aw z),(6,pt (n32+1)),(49,.slice (some ⟨n32,0,none⟩) 4 4)] ?_
      exact hv49 ⟨(n32+2,n32+1,n32),by first | omega | (dsimp only;omega)⟩
     refine Bq o0 [1,2,4,5,19,30,41,48,6] [] [(1,Ac p),(2,pt z),(Au z),(Aw z),(Ir c p),(NW p y8),(L6 p y8),(I5 p y8),(6,pt n32)] ⟨w,n32+1,[(Ak w),(AL c z),(AP z),(AO y8 z),(bk n32 #[i6 0,i6 0,i6 0] 111)]⟩ [0,1,2,3] Ag (.inr rfl) ?_
     refine CZ [6,1,2,4,5,19,30,41,48] [(6,pt n32),(1,Ac p),(2,pt z),(Au z),(Aw z),(Ir c p),(NW p y8),(L6 p y8),(I5 p y8)] ?_
     exact hv34 ⟨(n32+1,n32),by first | omega | (dsimp only;omega)⟩
    rintro⟨⟨n15,b16,b17⟩,hJ57⟩
    simp only at hJ57
    show E _ _ [(1,Ac p),(2,pt z),(Au z),(Aw z),(6,pt b17)] _ ⟨w,n15,[(Ak w),(AL c z),(AP z),(AO y8 z),(bk b16 #[i6 ((Ae (Az c p) 405 ⟨(p:Int), -1⟩).e),i6 ((Ae (Az c p) 405 ⟨(p:Int), -1⟩).Af.First),i6 ((Ae (Az c p) 405 ⟨(p:Int), -1⟩).Af.Second),i6 ((Ae (win y8.Bf 0 15) 406 ⟨(p:Int), -1⟩).e),i6 ((Ae (win y8.Bf 0 15) 406 ⟨(p:Int), -1⟩).Af.First),i6 ((Ae (win y8.Bf 0 15) 406 ⟨(p:Int), -1⟩).Af.Second),i6 ((Ae (win y8.AA 0 16) 407 ⟨(p:Int), -1⟩).e),i6 ((Ae (win y8.AA 0 16) 407 ⟨(p:Int), -1⟩).Af.First),i6 ((Ae (win y8.AA 0 16) 407 ⟨(p:Int), -1⟩).Af.Second),i6 ((Ae (win (y8.Ah.xs.length:Int) 1 8) 408 ⟨(p:Int), -1⟩).e),i6 ((Ae (win (y8.Ah.xs.length:Int) 1 8) 408 ⟨(p:Int), -1⟩).Af.First),i6 ((Ae (win (y8.Ah.xs.length:Int) 1 8) 408 ⟨(p:Int), -1⟩).Af.Second)] 111),(Tt c p y8 b17)]⟩ _ _ _
    refine Cc [0,1,2,3,5] [(Ak w),(AL c z),(AP z),(AO y8 z),(Tt c p y8 b17)] rfl rfl ?_
    have eA:AV (GY c p)=(AV [(Ae (Az c p) 405 ⟨(p:Int), -1⟩),(Ae (win y8.Bf 0 15) 406 ⟨(p:Int), -1⟩),(Ae (win y8.AA 0 16) 407 ⟨(p:Int), -1⟩),(Ae (win (y8.Ah.xs.length:Int) 1 8) 408 ⟨(p:Int), -1⟩)]):=by have e0:ES c p=y8:=hy8.symm;unfold GY;simp only[e0];simp[h11,h13]
    refine BR [1,2,4,5,6] [(1,Ac p),(2,pt z),(Au z),(Aw z),(6,pt b17)] ?_
    refine Cj (fun a w' hs=>⟨n15,b17,by omega,(by(try dsimp only[Tt,AP,AO,AL,I5,NW,L6,Ir,Nw,Au,Aw,Cb]at hs ⊢);rw[eA];exact hs)⟩)
   have hd58:=Jn h13
   refine DN 38 [0,1,2,3] [(Ak w),(AL c z),(AP z),(AO y8 z)] rfl rfl ?_
   refine Dc [(0,(an 7 1)),(1,o0),(3,o0),(6,o0),(7,(a1 3)),(14,o0),(17,o0),(18,(a1 3)),(25,o0),(28,o0),(29,(a1 3)),(30,o0),(32,o0)] [1,2,4,5,14,15,17,21,28,32,39,44,46] [Qb z,Qb z,Qb z,Qb z,Qb z,Qb z,Qb z,Qb (z+2),Qb (z+2),Qb (z+2)] [true,true,false,true,false,false,true,true,false,false,false,false,false,false,true,false,false,true,true,false,false,false,false,false,false,true,false,false,true,true,true,false,true,false,false,false,false,false,false] [(1,Ac p),(2,pt z),(Au z),(Aw z),(14,.agg (Aj.arr c)),(15,Ac p),(17,Ac p),(21,i6 y8.Fh),(28,Ac p),(32,i6 y8.EU),(39,Ac p),(Nw y8),(46,Ac p)] ⟨rfl,rfl,rfl,rfl,rfl,rfl,rfl,rfl,rfl,rfl,Ag⟩ ?_
   refine Ox (fun x:{p:Nat×Nat×Nat // z+3≤p.1∧z+3≤p.2.1∧z+3≤p.2.2}=>([(1,Ac p),(2,pt z),(Au z),(Aw z),(6,pt x.1.2.2)],⟨w,x.1.1,[(Ak w),(AL c z),(AP z),(AO y8 z),(.blk x.1.2.1 (.cells #[i6 ((Ae (Az c p) 405 ⟨(p:Int), -1⟩).e),i6 ((Ae (Az c p) 405 ⟨(p:Int), -1⟩).Af.First),i6 ((Ae (Az c p) 405 ⟨(p:Int), -1⟩).Af.Second),i6 ((Ae (win y8.Bf 0 15) 406 ⟨(p:Int), -1⟩).e),i6 ((Ae (win y8.Bf 0 15) 406 ⟨(p:Int), -1⟩).Af.First),i6 ((Ae (win y8.Bf 0 15) 406 ⟨(p:Int), -1⟩).Af.Second),i6 ((Ae false 407 ⟨(p:Int), -1⟩).e),i6 ((Ae false 407 ⟨(p:Int), -1⟩).Af.First),i6 ((Ae false 407 ⟨(p:Int), -1⟩).Af.Second),i6 ((Ae (win (y8.Ah.xs.length:Int) 1 8) 408 ⟨(p:Int), -1⟩).e),i6 ((Ae (win (y8.Ah.xs.length:Int) 1 8) 408 ⟨(p:Int), -1⟩).Af.First),i6 ((Ae (win (y8.Ah.xs.length:Int) 1 8) 408 ⟨(p:Int), -1⟩).Af.Second)] 111 (0,0)) true),(.blk x.1.2.2 (.cells (Ai.arr (AV [(Ae (Az c p) 405 ⟨(p:Int), -1⟩),(Ae (win y8.Bf 0 15) 406 ⟨(p:Int), -1⟩),(Ae false 407 ⟨(p:Int), -1⟩),(Ae (win (y8.Ah.xs.length:Int) 1 8) 408 ⟨(p:Int), -1⟩)])) 111 (0,0)) true)]⟩)) (fun hK => ?_) ?_
   ·refine Me 37 6 [.cl 2 (.bool (Az c p)),.cl 4 (.agg #[(Ac p),i6 (-1)]),.cl 5 (.agg (Ai.arr (Ae (Az c p) 405 ⟨(p:Int), -1⟩))),.cl 8 (.bool (win y8.Fh 0 2)),.tk 9 (ov (.bool true)),.tk 10 o0,.tk 11 (a1 3),.cl 12 (.bool (win y8.Bf 0 15)),.tk 13 o0,.cl 15 (.agg #[(Ac p),i6 (-1)]),.cl 16 (.agg (Ai.arr (Ae (win y8.Bf 0 15) 406 ⟨(p:Int), -1⟩))),.cl 19 (.bool (win y8.EU 0 16)),.tk 20 (ov (.bool false)),.tk 21 o0,.tk 22 o0,.tk 23 o0,.tk 24 o0,.cl 26 (.agg #[(Ac p),i6 (-1)]),.cl 27 (.agg (Ai.arr (Ae false 407 ⟨(p:Int), -1⟩))),.cl 31 (.bool (win (y8.Ah.xs.length:Int) 1 8)),.cl 33 (.agg #[(Ac p),i6 (-1)]),.cl 34 (.agg (Ai.arr (Ae (win (y8.Ah.xs.length:Int) 1 8) 408 ⟨(p:Int), -1⟩)))] [1,2,4,5,19,30,41,48] [(92,#[.agg (Aj.arr c),Ac p],.bool (Az c p)),(93,#[(Ac p)],.agg #[(Ac p),i6 (-1)]),(62,#[.bool (Az c p),i6 405,.agg #[(Ac p),i6 (-1)]],.agg (Ai.arr (Ae (Az c p) 405 ⟨(p:Int), -1⟩))),(63,#[i6 y8.Fh,i6 0,i6 2],.bool (win y8.Fh 0 2)),(63,#[i6 y8.Bf,i6 0,i6 15],.bool (win y8.Bf 0 15)),(93,#[(Ac p)],.agg #[(Ac p),i6 (-1)]),(62,#[.bool (win y8.Bf 0 15),i6 406,.agg #[(Ac p),i6 (-1)]],.agg (Ai.arr (Ae (win y8.Bf 0 15) 406 ⟨(p:Int), -1⟩))),(63,#[i6 y8.EU,i6 0,i6 16],.bool (win y8.EU 0 16)),(93,#[(Ac p)],.agg #[(Ac p),i6 (-1)]),(62,#[.bool false,i6 407,.agg #[(Ac p),i6 (-1)]],.agg (Ai.arr (Ae false 407 ⟨(p:Int), -1⟩))),(63,#[(Ac y8.Ah.xs.length),i6 1,i6 8],.bool (win (y8.Ah.xs.length:Int) 1 8)),(93,#[(Ac p)],.agg #[(Ac p),i6 (-1)]),(62,#[.bool (win (y8.Ah.xs.length:Int) 1 8),i6 408,.agg #[(Ac p),i6 (-1)]],.agg (Ai.arr (Ae (win (y8.Ah.xs.length:Int) 1 8) 408 ⟨(p:Int), -1⟩)))] (Dj 35 4) [Value.bool (win y8.Fh 0 2)=Value.bool true,Qb (z+2),Value.bool (win y8.EU 0 16)=Value.bool false] [(1,Ac p),(2,pt z),(Au z),(Aw z),(Ir c p),(NW p y8),(NQ p),(I5 p y8)] (.cells #[i6 0,i6 0,i6 0] 111 (0,0)) [0,1,2,3] ⟨(congrArg Value.bool h11),rfl,(congrArg Value.bool (Bool.eq_false_iff.2 h13)),Ag⟩ ⟨fun w62 hw62=>OQ w62 c (hc.ext (hw62.ext rfl) (fun _ h=>h)) p hp,fun w63 hw63=>Cm w63 (p:Int),fun w64 hw64=>AQ w64 (hL.ext (hw64.ext rfl)) (Az c p) 405 (p:Int) (-1),fun w65 hw65=>Bl w65 y8.Fh 0 2,fun w66 hw66=>Bl w66 y8.Bf 0 15,fun w67 hw67=>Cm w67 (p:Int),fun w68 hw68=>AQ w68 (hL.ext (hw68.ext rfl)) (win y8.Bf 0 15) 406 (p:Int) (-1),fun w69 hw69=>Bl w69 y8.EU 0 16,fun w70 hw70=>Cm w70 (p:Int),fun w71 hw71=>AQ w71 (hL.ext (hw71.ext rfl)) false 407 (p:Int) (-1),fun w72 hw72=>Bl w72 (y8.Ah.xs.length:Int) 1 8,fun w73 hw73=>Cm w73 (p:Int),fun w74 hw74=>AQ w74 (hL.ext (hw74.ext rfl)) (win (y8.Ah.xs.length:Int) 1 8) 408 (p:Int) (-1),Ag⟩ ?_ (fun hv77 n75 hn76 => ?_)
    ·rintro⟨⟨n78,b79⟩,hb80⟩
     simp only at hb80
     refine Bo 35 ?_
     refine Bq o0 [6,1,2,4,5,49] [] [(6,pt b79),(1,Ac p),(2,pt z),(Au z),(Aw z),(49,.slice (some ⟨n78,0,none⟩) 4 4)] ⟨w,n78+1,[(Ak w),(AL c z),(AP z),(AO y8 z),(bk b79 #[i6 0,i6 0,i6 0] 111),(JR c p y8 n78)]⟩ [0,1,2,3] Ag (.inr rfl) ?_
     refine Bo 36 ?_
     refine EX 91 #[.slice (some ⟨n78,0,none⟩) 4 4] (some 50) (.agg (Ai.arr (AV [(Ae (Az c p) 405 ⟨(p:Int), -1⟩),(Ae (win y8.Bf 0 15) 406 ⟨(p:Int), -1⟩),(Ae false 407 ⟨(p:Int), -1⟩),(Ae (win (y8.Ah.xs.length:Int) 1 8) 408 ⟨(p:Int), -1⟩)]))) [6,1,2,4,5,50] [(6,pt b79),(1,Ac p),(2,pt z),(Au z),(Aw z),(NV c p y8)] [0,1,2,3] (fun w81 hw81=>CE w81 (hL.ext (hw81.ext rfl)) ⟨some ⟨n78,0,none⟩,4,[(Ae (Az c p) 405 ⟨(p:Int), -1⟩),(Ae (win y8.Bf 0 15) 406 ⟨(p:Int), -1⟩),(Ae false 407 ⟨(p:Int), -1⟩),(Ae (win (y8.Ah.xs.length:Int) 1 8) 408 ⟨(p:Int), -1⟩)]⟩ (Dy hw81 (i:=5) [(Ae (Az c p) 405 ⟨(p:Int), -1⟩),(Ae (win y8.Bf 0 15) 406 ⟨(p:Int), -1⟩),(Ae false 407 ⟨(p:Int), -1⟩),(Ae (win (y8.Ah.xs.length:Int) 1 8) 408 ⟨(p:Int), -1⟩)]) (show 4≤1000 by decide)) (fun n82 hn83 => ?_)
     replace hn83:n78+1≤n82:=hn83
     refine Bo 38 ?_
     refine Bq (an 3 4) [6,1,2,4,5] [Qb b79,Qb b79,Qb b79] [(6,pt b79),(1,Ac p),(2,pt z),(Au z),(Aw z)] ⟨w,n82,[(Ak w),(AL c z),(AP z),(AO y8 z),(Vz c p y8 b79),(JR c p y8 n78)]⟩ [] ⟨rfl,rfl,rfl,Ag⟩ (.inl rfl) ?_
     refine D8 39 [0,1,2,3,4,5] [(Ak w),(AL c z),(AP z),(AO y8 z),(Vz c p y8 b79),(JR c p y8 n78)] rfl rfl ?_
     refine CV ?_
     refine BR [1,2,4,5,6] [(1,Ac p),(2,pt z),(Au z),(Aw z),(6,pt b79)] ?_
     refine Cc [0,1,2,3,5,4] [(Ak w),(AL c z),(AP z),(AO y8 z),(JR c p y8 n78),(Vz c p y8 b79)] rfl rfl ?_
     exact hK ⟨(n82,n78,b79),by first | omega | (dsimp only;omega)⟩
    replace hn76:z+3≤n75:=hn76
    refine Kq (fun x:{p:Nat×Nat×Nat // n75≤p.1∧n75≤p.2.1∧n75≤p.2.2}=>[(1,Ac p),(2,pt z),(Au z),(Aw z),(6,pt x.1.2.1),(NV c p y8)]) (fun x=>⟨w,x.1.1,[(Ak w),(AL c z),(AP z),(AO y8 z),(.blk x.1.2.1 (.cells #[i6 0,i6 0,i6 0] 111 (0,0)) true),(.blk x.1.2.2 (.cells #[i6 ((Ae (Az c p) 405 ⟨(p:Int), -1⟩).e),i6 ((Ae (Az c p) 405 ⟨(p:Int), -1⟩).Af.First),i6 ((Ae (Az c p) 405 ⟨(p:Int), -1⟩).Af.Second),i6 ((Ae (win y8.Bf 0 15) 406 ⟨(p:Int), -1⟩).e),i6 ((Ae (win y8.Bf 0 15) 406 ⟨(p:Int), -1⟩).Af.First),i6 ((Ae (win y8.Bf 0 15) 406 ⟨(p:Int), -1⟩).Af.Second),i6 ((Ae false 407 ⟨(p:Int), -1⟩).e),i6 ((Ae false 407 ⟨(p:Int), -1⟩).Af.First),i6 ((Ae false 407 ⟨(p:Int), -1⟩).Af.Second),i6 ((Ae (win (y8.Ah.xs.length:Int) 1 8) 408 ⟨(p:Int), -1⟩).e),i6 ((Ae (win (y8.Ah.xs.length:Int) 1 8) 408 ⟨(p:Int), -1⟩).Af.First),i6 ((Ae (win (y8.Ah.xs.length:Int) 1 8) 408 ⟨(p:Int), -1⟩).Af.Second)] 111 (0,0)) true)]⟩) 1 (Dj 38 1) ?_ (fun hv87 => ?_)
    ·rintro⟨⟨n84,b85,b86⟩,hb88⟩
     simp only at hb88
     show Wg _ _ [(1,Ac p),(2,pt z),(Au z),(Aw z),(6,pt b85),(NV c p y8)] _ ⟨w,n84,[(Ak w),(AL c z),(AP z),(AO y8 z),(bk b85 #[i6 0,i6 0,i6 0] 111),(KR c p y8 b86)]⟩ _ _ _ _ _ _ _
     refine Bo 38 ?_
     refine Bq (an 3 4) [1,2,4,5,6] [Qb b85,Qb b85,Qb b85] [(1,Ac p),(2,pt z),(Au z),(Aw z),(6,pt b85)] ⟨w,n84,[(Ak w),(AL c z),(AP z),(AO y8 z),(VK c p y8 b85),(KR c p y8 b86)]⟩ [] ⟨rfl,rfl,rfl,Ag⟩ (.inl rfl) ?_
     refine D8 39 [0,1,2,3,4,5] [(Ak w),(AL c z),(AP z),(AO y8 z),(VK c p y8 b85),(KR c p y8 b86)] rfl rfl ?_
     refine CV ?_
     refine BR [1,2,4,5,6] [(1,Ac p),(2,pt z),(Au z),(Aw z),(6,pt b85)] ?_
     refine Cc [0,1,2,3,5,4] [(Ak w),(AL c z),(AP z),(AO y8 z),(KR c p y8 b86),(VK c p y8 b85)] rfl rfl ?_
     exact hK ⟨(n84,b86,b85),by first | omega | (dsimp only;omega)⟩
    refine Kq (fun x:{p:Nat×Nat×Nat // n75≤p.1∧n75≤p.2.1∧n75≤p.2.2}=>[(1,Ac p),(2,pt z),(Au z),(Aw z),(6,pt x.1.2.1),(49,.slice (some ⟨x.1.2.2,0,none⟩) 4 4)]) (fun x=>⟨w,x.1.1,[(Ak w),(AL c z),(AP z),(AO y8 z),(.blk x.1.2.1 (.cells #[i6 0,i6 0,i6 0] 111 (0,0)) true),(.blk x.1.2.2 (.cells #[i6 ((Ae (Az c p) 405 ⟨(p:Int), -1⟩).e),i6 ((Ae (Az c p) 405 ⟨(p:Int), -1⟩).Af.First),i6 ((Ae (Az c p) 405 ⟨(p:Int), -1⟩).Af.Second),i6 ((Ae (win y8.Bf 0 15) 406 ⟨(p:Int), -1⟩).e),i6 ((Ae (win y8.Bf 0 15) 406 ⟨(p:Int), -1⟩).Af.First),i6 ((Ae (win y8.Bf 0 15) 406 ⟨(p:Int), -1⟩).Af.Second),i6 ((Ae false 407 ⟨(p:Int), -1⟩).e),i6 ((Ae false 407 ⟨(p:Int), -1⟩).Af.First),i6 ((Ae false 407 ⟨(p:Int), -1⟩).Af.Second),i6 ((Ae (win (y8.Ah.xs.length:Int) 1 8) 408 ⟨(p:Int), -1⟩).e),i6 ((Ae (win (y8.Ah.xs.length:Int) 1 8) 408 ⟨(p:Int), -1⟩).Af.First),i6 ((Ae (win (y8.Ah.xs.length:Int) 1 8) 408 ⟨(p:Int), -1⟩).Af.Second)] 111 (0,0)) true)]⟩) 2 [true,true,true,true,true,true,true,true,true,true,true,true,true,true,true,true,true,true,true,true,true,true,true,true,true,true,true,true,true,true,true,true,true,true,true,true,false,true,false] ?_ (fun hv92 => ?_)
    ·rintro⟨⟨n89,b90,b91⟩,hb93⟩
     simp only at hb93
     show Wg _ _ [(1,Ac p),(2,pt z),(Au z),(Aw z),(6,pt b90),(49,.slice (some ⟨b91,0,none⟩) 4 4)] _ ⟨w,n89,[(Ak w),(AL c z),(AP z),(AO y8 z),(bk b90 #[i6 0,i6 0,i6 0] 111),(bk b91 #[i6 ((Ae (Az c p) 405 ⟨(p:Int), -1⟩).e),i6 ((Ae (Az c p) 405 ⟨(p:Int), -1⟩).Af.First),i6 ((Ae (Az c p) 405 ⟨(p:Int), -1⟩).Af.Second),i6 ((Ae (win y8.Bf 0 15) 406 ⟨(p:Int), -1⟩).e),i6 ((Ae (win y8.Bf 0 15) 406 ⟨(p:Int), -1⟩).Af.First),i6 ((Ae (win y8.Bf 0 15) 406 ⟨(p:Int), -1⟩).Af.Second),i6 ((Ae false 407 ⟨(p:Int), -1⟩).e),i6 ((Ae false 407 ⟨(p:Int), -1⟩).Af.First),i6 ((Ae false 407 ⟨(p:Int), -1⟩).Af.Second),i6 ((Ae (win (y8.Ah.xs.length:Int) 1 8) 408 ⟨(p:Int), -1⟩).e),i6 ((Ae (win (y8.Ah.xs.length:Int) 1 8) 408 ⟨(p:Int), -1⟩).Af.First),i6 ((Ae (win (y8.Ah.xs.length:Int) 1 8) 408 ⟨(p:Int), -1⟩).Af.Second)] 111)]⟩ _ _ _ _ _ _ _
     refine Bo 36 ?_
     refine EX 91 #[.slice (some ⟨b91,0,none⟩) 4 4] (some 50) (.agg (Ai.arr (AV [(Ae (Az c p) 405 ⟨(p:Int), -1⟩),(Ae (win y8.Bf 0 15) 406 ⟨(p:Int), -1⟩),(Ae false 407 ⟨(p:Int), -1⟩),(Ae (win (y8.Ah.xs.length:Int) 1 8) 408 ⟨(p:Int), -1⟩)]))) [1,2,4,5,6,50] [(1,Ac p),(2,pt z),(Au z),(Aw z),(6,pt b90),(NV c p y8)] [0,1,2,3] (fun w94 hw94=>CE w94 (hL.ext (hw94.ext rfl)) ⟨some ⟨b91,0,none⟩,4,[(Ae (Az c p) 405 ⟨(p:Int), -1⟩),(Ae (win y8.Bf 0 15) 406 ⟨(p:Int), -1⟩),(Ae false 407 ⟨(p:Int), -1⟩),(Ae (win (y8.Ah.xs.length:Int) 1 8) 408 ⟨(p:Int), -1⟩)]⟩ (Dy hw94 (i:=5) [(Ae (Az c p) 405 ⟨(p:Int), -1⟩),(Ae (win y8.Bf 0 15) 406 ⟨(p:Int), -1⟩),(Ae false 407 ⟨(p:Int), -1⟩),(Ae (win (y8.Ah.xs.length:Int) 1 8) 408 ⟨(p:Int), -1⟩)]) (show 4≤1000 by decide)) (fun n95 hn96 => ?_)
     replace hn96:n89≤n95:=hn96
     refine CZ [1,2,4,5,6,50] [(1,Ac p),(2,pt z),(Au z),(Aw z),(6,pt b90),(NV c p y8)] ?_
     exact hv87 ⟨(n95,b90,b91),by first | omega | (dsimp only;omega)⟩
    refine Ij [35,37] ?_
    refine List.forall_mem_cons.2 ⟨?_,List.forall_mem_cons.2 ⟨?_,fun _ h=>absurd h List.not_mem_nil⟩⟩
    ·refine Bq o0 [1,2,4,5,49] [] [(1,Ac p),(2,pt z),(Au z),(Aw z),(49,.slice (some ⟨n75,0,none⟩) 4 4)] ⟨w,n75+1,[(Ak w),(AL c z),(AP z),(AO y8 z),(IL c p y8 n75)]⟩ [0,1,2,3] Ag (.inr rfl) ?_
     refine Ij [36,37] ?_
     refine List.forall_mem_cons.2 ⟨?_,List.forall_mem_cons.2 ⟨?_,fun _ h=>absurd h List.not_mem_nil⟩⟩
     ·refine EX 91 #[.slice (some ⟨n75,0,none⟩) 4 4] (some 50) (.agg (Ai.arr (AV [(Ae (Az c p) 405 ⟨(p:Int), -1⟩),(Ae (win y8.Bf 0 15) 406 ⟨(p:Int), -1⟩),(Ae false 407 ⟨(p:Int), -1⟩),(Ae (win (y8.Ah.xs.length:Int) 1 8) 408 ⟨(p:Int), -1⟩)]))) [1,2,4,5,50] [(1,Ac p),(2,pt z),(Au z),(Aw z),(NV c p y8)] [0,1,2,3] (fun w97 hw97=>CE w97 (hL.ext (hw97.ext rfl)) ⟨some ⟨n75,0,none⟩,4,[(Ae (Az c p) 405 ⟨(p:Int), -1⟩),(Ae (win y8.Bf 0 15) 406 ⟨(p:Int), -1⟩),(Ae false 407 ⟨(p:Int), -1⟩),(Ae (win (y8.Ah.xs.length:Int) 1 8) 408 ⟨(p:Int), -1⟩)]⟩ (Dy hw97 (i:=4) [(Ae (Az c p) 405 ⟨(p:Int), -1⟩),(Ae (win y8.Bf 0 15) 406 ⟨(p:Int), -1⟩),(Ae false 407 ⟨(p:Int), -1⟩),(Ae (win (y8.Ah.xs.length:Int) 1 8) 408 ⟨(p:Int), -1⟩)]) (show 4≤1000 by decide)) (fun n98 hn99 => ?_)
      replace hn99:n75+1≤n98:=hn99
      refine Bo 37 ?_
      refine Bq o0 [1,2,4,5,50,6] [] [(1,Ac p),(2,pt z),(Au z),(Aw z),(NV c p y8),(6,pt n98)] ⟨w,n98+1,[(Ak w),(AL c z),(AP z),(AO y8 z),(IL c p y8 n75),(bk n98 #[i6 0,i6 0,i6 0] 111)]⟩ [0,1,2,3] Ag (.inr rfl) ?_
      refine Jl [0,1,2,3,5,4] [(Ak w),(AL c z),(AP z),(AO y8 z),(bk n98 #[i6 0,i6 0,i6 0] 111),(IL c p y8 n75)] rfl rfl ?_
      refine CZ [1,2,4,5,6,50] [(1,Ac p),(2,pt z),(Au z),(Aw z),(6,pt n98),(NV c p y8)] ?_
      exact hv87 ⟨(n98+1,n98,n75),by first | omega | (dsimp only;omega)⟩
     refine Bq o0 [1,2,4,5,49,6] [] [(1,Ac p),(2,pt z),(Au z),(Aw z),(49,.slice (some ⟨n75,0,none⟩) 4 4),(6,pt (n75+1))] ⟨w,n75+2,[(Ak w),(AL c z),(AP z),(AO y8 z),(IL c p y8 n75),(bk (n75+1) #[i6 0,i6 0,i6 0] 111)]⟩ [0,1,2,3] Ag (.inr rfl) ?_
     refine Jl [0,1,2,3,5,4] [(Ak w),(AL c z),(AP z),(AO y8 z),(bk (n75+1) #[i6 0,i6 0,i6 0] 111),(IL c p y8 n75)] rfl rfl ?_
     refine CZ [1,2,4,5,6,49] [(1,Ac p),(2,pt z),(Au z),(Aw z),(6,pt (n75+1)),(49,.slice (some ⟨n75,0,none⟩) 4 4)] ?_
     exact hv92 ⟨(n75+2,n75+1,n75),by first | omega | (dsimp only;omega)⟩
    refine Bq o0 [1,2,4,5,19,30,41,48,6] [] [(1,Ac p),(2,pt z),(Au z),(Aw z),(Ir c p),(NW p y8),(NQ p),(I5 p y8),(6,pt n75)] ⟨w,n75+1,[(Ak w),(AL c z),(AP z),(AO y8 z),(bk n75 #[i6 0,i6 0,i6 0] 111)]⟩ [0,1,2,3] Ag (.inr rfl) ?_
    refine CZ [6,1,2,4,5,19,30,41,48] [(6,pt n75),(1,Ac p),(2,pt z),(Au z),(Aw z),(Ir c p),(NW p y8),(NQ p),(I5 p y8)] ?_
    exact hv77 ⟨(n75+1,n75),by first | omega | (dsimp only;omega)⟩
   rintro⟨⟨n59,b60,b61⟩,hJ100⟩
   simp only at hJ100
   show E _ _ [(1,Ac p),(2,pt z),(Au z),(Aw z),(6,pt b61)] _ ⟨w,n59,[(Ak w),(AL c z),(AP z),(AO y8 z),(bk b60 #[i6 ((Ae (Az c p) 405 ⟨(p:Int), -1⟩).e),i6 ((Ae (Az c p) 405 ⟨(p:Int), -1⟩).Af.First),i6 ((Ae (Az c p) 405 ⟨(p:Int), -1⟩).Af.Second),i6 ((Ae (win y8.Bf 0 15) 406 ⟨(p:Int), -1⟩).e),i6 ((Ae (win y8.Bf 0 15) 406 ⟨(p:Int), -1⟩).Af.First),i6 ((Ae (win y8.Bf 0 15) 406 ⟨(p:Int), -1⟩).Af.Second),i6 ((Ae false 407 ⟨(p:Int), -1⟩).e),i6 ((Ae false 407 ⟨(p:Int), -1⟩).Af.First),i6 ((Ae false 407 ⟨(p:Int), -1⟩).Af.Second),i6 ((Ae (win (y8.Ah.xs.length:Int) 1 8) 408 ⟨(p:Int), -1⟩).e),i6 ((Ae (win (y8.Ah.xs.length:Int) 1 8) 408 ⟨(p:Int), -1⟩).Af.First),i6 ((Ae (win (y8.Ah.xs.length:Int) 1 8) 408 ⟨(p:Int), -1⟩).Af.Second)] 111),(Vm c p y8 b61)]⟩ _ _ _
   refine Cc [0,1,2,3,5] [(Ak w),(AL c z),(AP z),(AO y8 z),(Vm c p y8 b61)] rfl rfl ?_
   have eA:AV (GY c p)=(AV [(Ae (Az c p) 405 ⟨(p:Int), -1⟩),(Ae (win y8.Bf 0 15) 406 ⟨(p:Int), -1⟩),(Ae false 407 ⟨(p:Int), -1⟩),(Ae (win (y8.Ah.xs.length:Int) 1 8) 408 ⟨(p:Int), -1⟩)]):=by have e0:ES c p=y8:=hy8.symm;unfold GY;simp only[e0];simp[h11,h13]
   refine BR [1,2,4,5,6] [(1,Ac p),(2,pt z),(Au z),(Aw z),(6,pt b61)] ?_
   refine Cj (fun a w' hs=>⟨n59,b61,by omega,(by(try dsimp only[Tt,Vm,AP,AO,AL,I5,NW,L6,Ir,NQ,Nw,Au,Aw,Cb]at hs ⊢);rw[eA];exact hs)⟩)
  have hd101:=Jn h11
  by_cases h102:(win y8.EU 0 16)=true
  ·have hd103:=Es h102
   refine DN 38 [0,1,2,3] [(Ak w),(AL c z),(AP z),(AO y8 z)] rfl rfl ?_
   refine Dc [(0,(an 7 1)),(1,o0),(3,o0),(6,o0),(7,(a1 3)),(14,o0),(17,o0),(18,(a1 3)),(25,o0),(28,o0),(29,(a1 3)),(30,o0),(32,o0)] [1,2,4,5,14,15,17,21,28,32,39,44,46] [Qb z,Qb z,Qb z,Qb z,Qb z,Qb z,Qb z,Qb (z+2),Qb (z+2),Qb (z+2)] [true,true,false,true,false,false,true,true,false,false,false,false,false,false,true,false,false,true,true,false,false,false,false,false,false,true,false,false,true,true,true,false,true,false,false,false,false,false,false] [(1,Ac p),(2,pt z),(Au z),(Aw z),(14,.agg (Aj.arr c)),(15,Ac p),(17,Ac p),(21,i6 y8.Fh),(28,Ac p),(32,i6 y8.EU),(39,Ac p),(Nw y8),(46,Ac p)] ⟨rfl,rfl,rfl,rfl,rfl,rfl,rfl,rfl,rfl,rfl,Ag⟩ ?_
   refine Ox (fun x:{p:Nat×Nat×Nat // z+3≤p.1∧z+3≤p.2.1∧z+3≤p.2.2}=>([(1,Ac p),(2,pt z),(Au z),(Aw z),(6,pt x.1.2.2)],⟨w,x.1.1,[(Ak w),(AL c z),(AP z),(AO y8 z),(.blk x.1.2.1 (.cells #[i6 ((Ae (Az c p) 405 ⟨(p:Int), -1⟩).e),i6 ((Ae (Az c p) 405 ⟨(p:Int), -1⟩).Af.First),i6 ((Ae (Az c p) 405 ⟨(p:Int), -1⟩).Af.Second),i6 ((Ae false 406 ⟨(p:Int), -1⟩).e),i6 ((Ae false 406 ⟨(p:Int), -1⟩).Af.First),i6 ((Ae false 406 ⟨(p:Int), -1⟩).Af.Second),i6 ((Ae (win y8.AA 0 16) 407 ⟨(p:Int), -1⟩).e),i6 ((Ae (win y8.AA 0 16) 407 ⟨(p:Int), -1⟩).Af.First),i6 ((Ae (win y8.AA 0 16) 407 ⟨(p:Int), -1⟩).Af.Second),i6 ((Ae (win (y8.Ah.xs.length:Int) 1 8) 408 ⟨(p:Int), -1⟩).e),i6 ((Ae (win (y8.Ah.xs.length:Int) 1 8) 408 ⟨(p:Int), -1⟩).Af.First),i6 ((Ae (win (y8.Ah.xs.length:Int) 1 8) 408 ⟨(p:Int), -1⟩).Af.Second)] 111 (0,0)) true),(.blk x.1.2.2 (.cells (Ai.arr (AV [(Ae (Az c p) 405 ⟨(p:Int), -1⟩),(Ae false 406 ⟨(p:Int), -1⟩),(Ae (win y8.AA 0 16) 407 ⟨(p:Int), -1⟩),(Ae (win (y8.Ah.xs.length:Int) 1 8) 408 ⟨(p:Int), -1⟩)])) 111 (0,0)) true)]⟩)) (fun hK => ?_) ?_
   ·refine Me 37 6 [.cl 2 (.bool (Az c p)),.cl 4 (.agg #[(Ac p),i6 (-1)]),.cl 5 (.agg (Ai.arr (Ae (Az c p) 405 ⟨(p:Int), -1⟩))),.cl 8 (.bool (win y8.Fh 0 2)),.tk 9 (ov (.bool false)),.tk 10 o0,.tk 11 o0,.tk 12 o0,.tk 13 o0,.cl 15 (.agg #[(Ac p),i6 (-1)]),.cl 16 (.agg (Ai.arr (Ae false 406 ⟨(p:Int), -1⟩))),.cl 19 (.bool (win y8.EU 0 16)),.tk 20 (ov (.bool true)),.tk 21 o0,.tk 22 (a1 3),.cl 23 (.bool (win y8.AA 0 16)),.tk 24 o0,.cl 26 (.agg #[(Ac p),i6 (-1)]),.cl 27 (.agg (Ai.arr (Ae (win y8.AA 0 16) 407 ⟨(p:Int), -1⟩))),.cl 31 (.bool (win (y8.Ah.xs.length:Int) 1 8)),.cl 33 (.agg #[(Ac p),i6 (-1)]),.cl 34 (.agg (Ai.arr (Ae (win (y8.Ah.xs.length:Int) 1 8) 408 ⟨(p:Int), -1⟩)))] [1,2,4,5,19,30,41,48] [(92,#[.agg (Aj.arr c),Ac p],.bool (Az c p)),(93,#[(Ac p)],.agg #[(Ac p),i6 (-1)]),(62,#[.bool (Az c p),i6 405,.agg #[(Ac p),i6 (-1)]],.agg (Ai.arr (Ae (Az c p) 405 ⟨(p:Int), -1⟩))),(63,#[i6 y8.Fh,i6 0,i6 2],.bool (win y8.Fh 0 2)),(93,#[(Ac p)],.agg #[(Ac p),i6 (-1)]),(62,#[.bool false,i6 406,.agg #[(Ac p),i6 (-1)]],.agg (Ai.arr (Ae false 406 ⟨(p:Int), -1⟩))),(63,#[i6 y8.EU,i6 0,i6 16],.bool (win y8.EU 0 16)),(63,#[i6 y8.AA,i6 0,i6 16],.bool (win y8.AA 0 16)),(93,#[(Ac p)],.agg #[(Ac p),i6 (-1)]),(62,#[.bool (win y8.AA 0 16),i6 407,.agg #[(Ac p),i6 (-1)]],.agg (Ai.arr (Ae (win y8.AA 0 16) 407 ⟨(p:Int), -1⟩))),(63,#[(Ac y8.Ah.xs.length),i6 1,i6 8],.bool (win (y8.Ah.xs.length:Int) 1 8)),(93,#[(Ac p)],.agg #[(Ac p),i6 (-1)]),(62,#[.bool (win (y8.Ah.xs.length:Int) 1 8),i6 408,.agg #[(Ac p),i6 (-1)]],.agg (Ai.arr (Ae (win (y8.Ah.xs.length:Int) 1 8) 408 ⟨(p:Int), -1⟩)))] (Dj 35 4) [Value.bool (win y8.Fh 0 2)=Value.bool false,Value.bool (win y8.EU 0 16)=Value.bool true,Qb (z+2)] [(1,Ac p),(2,pt z),(Au z),(Aw z),(Ir c p),(NE p),(L6 p y8),(I5 p y8)] (.cells #[i6 0,i6 0,i6 0] 111 (0,0)) [0,1,2,3] ⟨(congrArg Value.bool (Bool.eq_false_iff.2 h11)),(congrArg Value.bool h102),rfl,Ag⟩ ⟨fun w107 hw107=>OQ w107 c (hc.ext (hw107.ext rfl) (fun _ h=>h)) p hp,fun w108 hw108=>Cm w108 (p:Int),fun w109 hw109=>AQ w109 (hL.ext (hw109.ext rfl)) (Az c p) 405 (p:Int) (-1),fun w110 hw110=>Bl w110 y8.Fh 0 2,fun w111 hw111=>Cm w111 (p:Int),fun w112 hw112=>AQ w112 (hL.ext (hw112.ext rfl)) false 406 (p:Int) (-1),fun w113 hw113=>Bl w113 y8.EU 0 16,fun w114 hw114=>Bl w114 y8.AA 0 16,fun w115 hw115=>Cm w115 (p:Int),fun w116 hw116=>AQ w116 (hL.ext (hw116.ext rfl)) (win y8.AA 0 16) 407 (p:Int) (-1),fun w117 hw117=>Bl w117 (y8.Ah.xs.length:Int) 1 8,fun w118 hw118=>Cm w118 (p:Int),fun w119 hw119=>AQ w119 (hL.ext (hw119.ext rfl)) (win (y8.Ah.xs.length:Int) 1 8) 408 (p:Int) (-1),Ag⟩ ?_ (fun hv122 n120 hn121 => ?_)
    ·rintro⟨⟨n123,b124⟩,hb125⟩
     simp only at hb125
     refine Bo 35 ?_
     refine Bq o0 [6,1,2,4,5,49] [] [(6,pt b124),(1,Ac p),(2,pt z),(Au z),(Aw z),(49,.slice (some ⟨n123,0,none⟩) 4 4)] ⟨w,n123+1,[(Ak w),(AL c z),(AP z),(AO y8 z),(bk b124 #[i6 0,i6 0,i6 0] 111),(Jy c p y8 n123)]⟩ [0,1,2,3] Ag (.inr rfl) ?_
     refine Bo 36 ?_
     refine EX 91 #[.slice (some ⟨n123,0,none⟩) 4 4] (some 50) (.agg (Ai.arr (AV [(Ae (Az c p) 405 ⟨(p:Int), -1⟩),(Ae false 406 ⟨(p:Int), -1⟩),(Ae (win y8.AA 0 16) 407 ⟨(p:Int), -1⟩),(Ae (win (y8.Ah.xs.length:Int) 1 8) 408 ⟨(p:Int), -1⟩)]))) [6,1,2,4,5,50] [(6,pt b124),(1,Ac p),(2,pt z),(Au z),(Aw z),(N7 c p y8)] [0,1,2,3] (fun w126 hw126=>CE w126 (hL.ext (hw126.ext rfl)) ⟨some ⟨n123,0,none⟩,4,[(Ae (Az c p) 405 ⟨(p:Int), -1⟩),(Ae false 406 ⟨(p:Int), -1⟩),(Ae (win y8.AA 0 16) 407 ⟨(p:Int), -1⟩),(Ae (win (y8.Ah.xs.length:Int) 1 8) 408 ⟨(p:Int), -1⟩)]⟩ (Dy hw126 (i:=5) [(Ae (Az c p) 405 ⟨(p:Int), -1⟩),(Ae false 406 ⟨(p:Int), -1⟩),(Ae (win y8.AA 0 16) 407 ⟨(p:Int), -1⟩),(Ae (win (y8.Ah.xs.length:Int) 1 8) 408 ⟨(p:Int), -1⟩)]) (show 4≤1000 by decide)) (fun n127 hn128 => ?_)
     replace hn128:n123+1≤n127:=hn128
     refine Bo 38 ?_
     refine Bq (an 3 4) [6,1,2,4,5] [Qb b124,Qb b124,Qb b124] [(6,pt b124),(1,Ac p),(2,pt z),(Au z),(Aw z)] ⟨w,n127,[(Ak w),(AL c z),(AP z),(AO y8 z),(VE c p y8 b124),(Jy c p y8 n123)]⟩ [] ⟨rfl,rfl,rfl,Ag⟩ (.inl rfl) ?_
     refine D8 39 [0,1,2,3,4,5] [(Ak w),(AL c z),(AP z),(AO y8 z),(VE c p y8 b124),(Jy c p y8 n123)] rfl rfl ?_
     refine CV ?_
     refine BR [1,2,4,5,6] [(1,Ac p),(2,pt z),(Au z),(Aw z),(6,pt b124)] ?_
     refine Cc [0,1,2,3,5,4] [(Ak w),(AL c z),(AP z),(AO y8 z),(Jy c p y8 n123),(VE c p y8 b124)] rfl rfl ?_
     exact hK ⟨(n127,n123,b124),by first | omega | (dsimp only;omega)⟩
    replace hn121:z+3≤n120:=hn121
    refine Kq (fun x:{p:Nat×Nat×Nat // n120≤p.1∧n120≤p.2.1∧n120≤p.2.2}=>[(1,Ac p),(2,pt z),(Au z),(Aw z),(6,pt x.1.2.1),(N7 c p y8)]) (fun x=>⟨w,x.1.1,[(Ak w),(AL c z),(AP z),(AO y8 z),(.blk x.1.2.1 (.cells #[i6 0,i6 0,i6 0] 111 (0,0)) true),(.blk x.1.2.2 (.cells #[i6 ((Ae (Az c p) 405 ⟨(p:Int), -1⟩).e),i6 ((Ae (Az c p) 405 ⟨(p:Int), -1⟩).Af.First),i6 ((Ae (Az c p) 405 ⟨(p:Int), -1⟩).Af.Second),i6 ((Ae false 406 ⟨(p:Int), -1⟩).e),i6 ((Ae false 406 ⟨(p:Int), -1⟩).Af.First),i6 ((Ae false 406 ⟨(p:Int), -1⟩).Af.Second),i6 ((Ae (win y8.AA 0 16) 407 ⟨(p:Int), -1⟩).e),i6 ((Ae (win y8.AA 0 16) 407 ⟨(p:Int), -1⟩).Af.First),i6 ((Ae (win y8.AA 0 16) 407 ⟨(p:Int), -1⟩).Af.Second),i6 ((Ae (win (y8.Ah.xs.length:Int) 1 8) 408 ⟨(p:Int), -1⟩).e),i6 ((Ae (win (y8.Ah.xs.length:Int) 1 8) 408 ⟨(p:Int), -1⟩).Af.First),i6 ((Ae (win (y8.Ah.xs.length:Int) 1 8) 408 ⟨(p:Int), -1⟩).Af.Second)] 111 (0,0)) true)]⟩) 1 (Dj 38 1) ?_ (fun hv132 => ?_)
    ·rintro⟨⟨n129,b130,b131⟩,hb133⟩
     simp only at hb133
     show Wg _ _ [(1,Ac p),(2,pt z),(Au z),(Aw z),(6,pt b130),(N7 c p y8)] _ ⟨w,n129,[(Ak w),(AL c z),(AP z),(AO y8 z),(bk b130 #[i6 0,i6 0,i6 0] 111),(IA c p y8 b131)]⟩ _ _ _ _ _ _ _
     refine Bo 38 ?_
     refine Bq (an 3 4) [1,2,4,5,6] [Qb b130,Qb b130,Qb b130] [(1,Ac p),(2,pt z),(Au z),(Aw z),(6,pt b130)] ⟨w,n129,[(Ak w),(AL c z),(AP z),(AO y8 z),(VO c p y8 b130),(IA c p y8 b131)]⟩ [] ⟨rfl,rfl,rfl,Ag⟩ (.inl rfl) ?_
     refine D8 39 [0,1,2,3,4,5] [(Ak w),(AL c z),(AP z),(AO y8 z),(VO c p y8 b130),(IA c p y8 b131)] rfl rfl ?_
     refine CV ?_
     refine BR [1,2,4,5,6] [(1,Ac p),(2,pt z),(Au z),(Aw z),(6,pt b130)] ?_
     refine Cc [0,1,2,3,5,4] [(Ak w),(AL c z),(AP z),(AO y8 z),(IA c p y8 b131),(VO c p y8 b130)] rfl rfl ?_
     exact hK ⟨(n129,b131,b130),by first | omega | (dsimp only;omega)⟩
    refine Kq (fun x:{p:Nat×Nat×Nat // n120≤p.1∧n120≤p.2.1∧n120≤p.2.2}=>[(1,Ac p),(2,pt z),(Au z),(Aw z),(6,pt x.1.2.1),(49,.slice (some ⟨x.1.2.2,0,none⟩) 4 4)]) (fun x=>⟨w,x.1.1,[(Ak w),(AL c z),(AP z),(AO y8 z),(.blk x.1.2.1 (.cells #[i6 0,i6 0,i6 0] 111 (0,0)) true),(.blk x.1.2.2 (.cells #[i6 ((Ae (Az c p) 405 ⟨(p:Int), -1⟩).e),i6 ((Ae (Az c p) 405 ⟨(p:Int), -1⟩).Af.First),i6 ((Ae (Az c p) 405 ⟨(p:Int), -1⟩).Af.Second),i6 ((Ae false 406 ⟨(p:Int), -1⟩).e),i6 ((Ae false 406 ⟨(p:Int), -1⟩).Af.First),i6 ((Ae false 406 ⟨(p:Int), -1⟩).Af.Second),i6 ((Ae (win y8.AA 0 16) 407 ⟨(p:Int), -1⟩).e),i6 ((Ae (win y8.AA 0 16) 407 ⟨(p:Int), -1⟩).Af.First),i6 ((Ae (win y8.AA 0 16) 407 ⟨(p:Int), -1⟩).Af.Second),i6 ((Ae (win (y8.Ah.xs.length:Int) 1 8) 408 ⟨(p:Int), -1⟩).e),i6 ((Ae (win (y8.Ah.xs.length:Int) 1 8) 408 ⟨(p:Int), -1⟩).Af.First),i6 ((Ae (win (y8.Ah.xs.length:Int) 1 8) 408 ⟨(p:Int), -1⟩).Af.Second)] 111 (0,0)) true)]⟩) 2 [true,true,true,true,true,true,true,true,true,true,true,true,true,true,true,true,true,true,true,true,true,true,true,true,true,true,true,true,true,true,true,true,true,true,true,true,false,true,false] ?_ (fun hv137 => ?_)
    ·rintro⟨⟨n134,b135,b136⟩,hb138⟩
     simp only at hb138
     show Wg _ _ [(1,Ac p),(2,pt z),(Au z),(Aw z),(6,pt b135),(49,.slice (some ⟨b136,0,none⟩) 4 4)] _ ⟨w,n134,[(Ak w),(AL c z),(AP z),(AO y8 z),(bk b135 #[i6 0,i6 0,i6 0] 111),(bk b136 #[i6 ((Ae (Az c p) 405 ⟨(p:Int), -1⟩).e),i6 ((Ae (Az c p) 405 ⟨(p:Int), -1⟩).Af.First),i6 ((Ae (Az c p) 405 ⟨(p:Int), -1⟩).Af.Second),i6 ((Ae false 406 ⟨(p:Int), -1⟩).e),i6 ((Ae false 406 ⟨(p:Int), -1⟩).Af.First),i6 ((Ae false 406 ⟨(p:Int), -1⟩).Af.Second),i6 ((Ae (win y8.AA 0 16) 407 ⟨(p:Int), -1⟩).e),i6 ((Ae (win y8.AA 0 16) 407 ⟨(p:Int), -1⟩).Af.First),i6 ((Ae (win y8.AA 0 16) 407 ⟨(p:Int), -1⟩).Af.Second),i6 ((Ae (win (y8.Ah.xs.length:Int) 1 8) 408 ⟨(p:Int), -1⟩).e),i6 ((Ae (win (y8.Ah.xs.length:Int) 1 8) 408 ⟨(p:Int), -1⟩).Af.First),i6 ((Ae (win (y8.Ah.xs.length:Int) 1 8) 408 ⟨(p:Int), -1⟩).Af.Second)] 111)]⟩ _ _ _ _ _ _ _
     refine Bo 36 ?_
     refine EX 91 #[.slice (some ⟨b136,0,none⟩) 4 4] (some 50) (.agg (Ai.arr (AV [(Ae (Az c p) 405 ⟨(p:Int), -1⟩),(Ae false 406 ⟨(p:Int), -1⟩),(Ae (win y8.AA 0 16) 407 ⟨(p:Int), -1⟩),(Ae (win (y8.Ah.xs.length:Int) 1 8) 408 ⟨(p:Int), -1⟩)]))) [1,2,4,5,6,50] [(1,Ac p),(2,pt z),(Au z),(Aw z),(6,pt b135),(N7 c p y8)] [0,1,2,3] (fun w139 hw139=>CE w139 (hL.ext (hw139.ext rfl)) ⟨some ⟨b136,0,none⟩,4,[(Ae (Az c p) 405 ⟨(p:Int), -1⟩),(Ae false 406 ⟨(p:Int), -1⟩),(Ae (win y8.AA 0 16) 407 ⟨(p:Int), -1⟩),(Ae (win (y8.Ah.xs.length:Int) 1 8) 408 ⟨(p:Int), -1⟩)]⟩ (Dy hw139 (i:=5) [(Ae (Az c p) 405 ⟨(p:Int), -1⟩),(Ae false 406 ⟨(p:Int), -1⟩),(Ae (win y8.AA 0 16) 407 ⟨(p:Int), -1⟩),(Ae (win (y8.Ah.xs.length:Int) 1 8) 408 ⟨(p:Int), -1⟩)]) (show 4≤1000 by decide)) (fun n140 hn141 => ?_)
     replace hn141:n134≤n140:=hn141
     refine CZ [1,2,4,5,6,50] [(1,Ac p),(2,pt z),(Au z),(Aw z),(6,pt b135),(N7 c p y8)] ?_
     exact hv132 ⟨(n140,b135,b136),by first | omega | (dsimp only;omega)⟩
    refine Ij [35,37] ?_
    refine List.forall_mem_cons.2 ⟨?_,List.forall_mem_cons.2 ⟨?_,fun _ h=>absurd h List.not_mem_nil⟩⟩
    ·refine Bq o0 [1,2,4,5,49] [] [(1,Ac p),(2,pt z),(Au z),(Aw z),(49,.slice (some ⟨n120,0,none⟩) 4 4)] ⟨w,n120+1,[(Ak w),(AL c z),(AP z),(AO y8 z),(SG c p y8 n120)]⟩ [0,1,2,3] Ag (.inr rfl) ?_
     refine Ij [36,37] ?_
     refine List.forall_mem_cons.2 ⟨?_,List.forall_mem_cons.2 ⟨?_,fun _ h=>absurd h List.not_mem_nil⟩⟩
     ·refine EX 91 #[.slice (some ⟨n120,0,none⟩) 4 4] (some 50) (.agg (Ai.arr (AV [(Ae (Az c p) 405 ⟨(p:Int), -1⟩),(Ae false 406 ⟨(p:Int), -1⟩),(Ae (win y8.AA 0 16) 407 ⟨(p:Int), -1⟩),(Ae (win (y8.Ah.xs.length:Int) 1 8) 408 ⟨(p:Int), -1⟩)]))) [1,2,4,5,50] [(1,Ac p),(2,pt z),(Au z),(Aw z),(N7 c p y8)] [0,1,2,3] (fun w142 hw142=>CE w142 (hL.ext (hw142.ext rfl)) ⟨some ⟨n120,0,none⟩,4,[(Ae (Az c p) 405 ⟨(p:Int), -1⟩),(Ae false 406 ⟨(p:Int), -1⟩),(Ae (win y8.AA 0 16) 407 ⟨(p:Int), -1⟩),(Ae (win (y8.Ah.xs.length:Int) 1 8) 408 ⟨(p:Int), -1⟩)]⟩ (Dy hw142 (i:=4) [(Ae (Az c p) 405 ⟨(p:Int), -1⟩),(Ae false 406 ⟨(p:Int), -1⟩),(Ae (win y8.AA 0 16) 407 ⟨(p:Int), -1⟩),(Ae (win (y8.Ah.xs.length:Int) 1 8) 408 ⟨(p:Int), -1⟩)]) (show 4≤1000 by decide)) (fun n143 hn144 => ?_)
      replace hn144:n120+1≤n143:=hn144
      refine Bo 37 ?_
      refine Bq o0 [1,2,4,5,50,6] [] [(1,Ac p),(2,pt z),(Au z),(Aw z),(N7 c p y8),(6,pt n143)] ⟨w,n143+1,[(Ak w),(AL c z),(AP z),(AO y8 z),(SG c p y8 n120),(bk n143 #[i6 0,i6 0,i6 0] 111)]⟩ [0,1,2,3] Ag (.inr rfl) ?_
      refine Jl [0,1,2,3,5,4] [(Ak w),(AL c z),(AP z),(AO y8 z),(bk n143 #[i6 0,i6 0,i6 0] 111),(SG c p y8 n120)] rfl rfl ?_
      refine CZ [1,2,4,5,6,50] [(1,Ac p),(2,pt z),(Au z),(Aw z),(6,pt n143),(N7 c p y8)] ?_
      exact hv132 ⟨(n143+1,n143,n120),by first | omega | (dsimp only;omega)⟩
     refine Bq o0 [1,2,4,5,49,6] [] [(1,Ac p),(2,pt z),(Au z),(Aw z),(49,.slice (some ⟨n120,0,none⟩) 4 4),(6,pt (n120+1))] ⟨w,n120+2,[(Ak w),(AL c z),(AP z),(AO y8 z),(SG c p y8 n120),(bk (n120+1) #[i6 0,i6 0,i6 0] 111)]⟩ [0,1,2,3] Ag (.inr rfl) ?_
     refine Jl [0,1,2,3,5,4] [(Ak w),(AL c z),(AP z),(AO y8 z),(bk (n120+1) #[i6 0,i6 0,i6 0] 111),(SG c p y8 n120)] rfl rfl ?_
     refine CZ [1,2,4,5,6,49] [(1,Ac p),(2,pt z),(Au z),(Aw z),(6,pt (n120+1)),(49,.slice (some ⟨n120,0,none⟩) 4 4)] ?_
     exact hv137 ⟨(n120+2,n120+1,n120),by first | omega | (dsimp only;omega)⟩
    refine Bq o0 [1,2,4,5,19,30,41,48,6] [] [(1,Ac p),(2,pt z),(Au z),(Aw z),(Ir c p),(NE p),(L6 p y8),(I5 p y8),(6,pt n120)] ⟨w,n120+1,[(Ak w),(AL c z),(AP z),(AO y8 z),(bk n120 #[i6 0,i6 0,i6 0] 111)]⟩ [0,1,2,3] Ag (.inr rfl) ?_
    refine CZ [6,1,2,4,5,19,30,41,48] [(6,pt n120),(1,Ac p),(2,pt z),(Au z),(Aw z),(Ir c p),(NE p),(L6 p y8),(I5 p y8)] ?_
    exact hv122 ⟨(n120+1,n120),by first | omega | (dsimp only;omega)⟩
   rintro⟨⟨n104,b105,b106⟩,hJ145⟩
   simp only at hJ145
   show E _ _ [(1,Ac p),(2,pt z),(Au z),(Aw z),(6,pt b106)] _ ⟨w,n104,[(Ak w),(AL c z),(AP z),(AO y8 z),(bk b105 #[i6 ((Ae (Az c p) 405 ⟨(p:Int), -1⟩).e),i6 ((Ae (Az c p) 405 ⟨(p:Int), -1⟩).Af.First),i6 ((Ae (Az c p) 405 ⟨(p:Int), -1⟩).Af.Second),i6 ((Ae false 406 ⟨(p:Int), -1⟩).e),i6 ((Ae false 406 ⟨(p:Int), -1⟩).Af.First),i6 ((Ae false 406 ⟨(p:Int), -1⟩).Af.Second),i6 ((Ae (win y8.AA 0 16) 407 ⟨(p:Int), -1⟩).e),i6 ((Ae (win y8.AA 0 16) 407 ⟨(p:Int), -1⟩).Af.First),i6 ((Ae (win y8.AA 0 16) 407 ⟨(p:Int), -1⟩).Af.Second),i6 ((Ae (win (y8.Ah.xs.length:Int) 1 8) 408 ⟨(p:Int), -1⟩).e),i6 ((Ae (win (y8.Ah.xs.length:Int) 1 8) 408 ⟨(p:Int), -1⟩).Af.First),i6 ((Ae (win (y8.Ah.xs.length:Int) 1 8) 408 ⟨(p:Int), -1⟩).Af.Second)] 111),(TC c p y8 b106)]⟩ _ _ _
   refine Cc [0,1,2,3,5] [(Ak w),(AL c z),(AP z),(AO y8 z),(TC c p y8 b106)] rfl rfl ?_
   have eA:AV (GY c p)=(AV [(Ae (Az c p) 405 ⟨(p:Int), -1⟩),(Ae false 406 ⟨(p:Int), -1⟩),(Ae (win y8.AA 0 16) 407 ⟨(p:Int), -1⟩),(Ae (win (y8.Ah.xs.length:Int) 1 8) 408 ⟨(p:Int), -1⟩)]):=by have e0:ES c p=y8:=hy8.symm;unfold GY;simp only[e0];simp[h11,h102]
   refine BR [1,2,4,5,6] [(1,Ac p),(2,pt z),(Au z),(Aw z),(6,pt b106)] ?_
   refine Cj (fun a w' hs=>⟨n104,b106,by omega,(by(try dsimp only[TC,AP,AO,AL,I5,L6,Ir,NE,Nw,Au,Aw,Cb]at hs ⊢);rw[eA];exact hs)⟩)
  have hd146:=Jn h102
  refine DN 38 [0,1,2,3] [(Ak w),(AL c z),(AP z),(AO y8 z)] rfl rfl ?_
  refine Dc [(0,(an 7 1)),(1,o0),(3,o0),(6,o0),(7,(a1 3)),(14,o0),(17,o0),(18,(a1 3)),(25,o0),(28,o0),(29,(a1 3)),(30,o0),(32,o0)] [1,2,4,5,14,15,17,21,28,32,39,44,46] [Qb z,Qb z,Qb z,Qb z,Qb z,Qb z,Qb z,Qb (z+2),Qb (z+2),Qb (z+2)] [true,true,false,true,false,false,true,true,false,false,false,false,false,false,true,false,false,true,true,false,false,false,false,false,false,true,false,false,true,true,true,false,true,false,false,false,false,false,false] [(1,Ac p),(2,pt z),(Au z),(Aw z),(14,.agg (Aj.arr c)),(15,Ac p),(17,Ac p),(21,i6 y8.Fh),(28,Ac p),(32,i6 y8.EU),(39,Ac p),(Nw y8),(46,Ac p)] ⟨rfl,rfl,rfl,rfl,rfl,rfl,rfl,rfl,rfl,rfl,Ag⟩ ?_
  refine Ox (fun x:{p:Nat×Nat×Nat // z+3≤p.1∧z+3≤p.2.1∧z+3≤p.2.2}=>([(1,Ac p),(2,pt z),(Au z),(Aw z),(6,pt x.1.2.2)],⟨w,x.1.1,[(Ak w),(AL c z),(AP z),(AO y8 z),(.blk x.1.2.1 (.cells #[i6 ((Ae (Az c p) 405 ⟨(p:Int), -1⟩).e),i6 ((Ae (Az c p) 405 ⟨(p:Int), -1⟩).Af.First),i6 ((Ae (Az c p) 405 ⟨(p:Int), -1⟩).Af.Second),i6 ((Ae false 406 ⟨(p:Int), -1⟩).e),i6 ((Ae false 406 ⟨(p:Int), -1⟩).Af.First),i6 ((Ae false 406 ⟨(p:Int), -1⟩).Af.Second),i6 ((Ae false 407 ⟨(p:Int), -1⟩).e),i6 ((Ae false 407 ⟨(p:Int), -1⟩).Af.First),i6 ((Ae false 407 ⟨(p:Int), -1⟩).Af.Second),i6 ((Ae (win (y8.Ah.xs.length:Int) 1 8) 408 ⟨(p:Int), -1⟩).e),i6 ((Ae (win (y8.Ah.xs.length:Int) 1 8) 408 ⟨(p:Int), -1⟩).Af.First),i6 ((Ae (win (y8.Ah.xs.length:Int) 1 8) 408 ⟨(p:Int), -1⟩).Af.Second)] 111 (0,0)) true),(.blk x.1.2.2 (.cells (Ai.arr (AV [(Ae (Az c p) 405 ⟨(p:Int), -1⟩),(Ae false 406 ⟨(p:Int), -1⟩),(Ae false 407 ⟨(p:Int), -1⟩),(Ae (win (y8.Ah.xs.length:Int) 1 8) 408 ⟨(p:Int), -1⟩)])) 111 (0,0)) true)]⟩)) (fun hK => ?_) ?_
  ·refine Me 37 6 [.cl 2 (.bool (Az c p)),.cl 4 (.agg #[(Ac p),i6 (-1)]),.cl 5 (.agg (Ai.arr (Ae (Az c p) 405 ⟨(p:Int), -1⟩))),.cl 8 (.bool (win y8.Fh 0 2)),.tk 9 (ov (.bool false)),.tk 10 o0,.tk 11 o0,.tk 12 o0,.tk 13 o0,.cl 15 (.agg #[(Ac p),i6 (-1)]),.cl 16 (.agg (Ai.arr (Ae false 406 ⟨(p:Int), -1⟩))),.cl 19 (.bool (win y8.EU 0 16)),.tk 20 (ov (.bool false)),.tk 21 o0,.tk 22 o0,.tk 23 o0,.tk 24 o0,.cl 26 (.agg #[(Ac p),i6 (-1)]),.cl 27 (.agg (Ai.arr (Ae false 407 ⟨(p:Int), -1⟩))),.cl 31 (.bool (win (y8.Ah.xs.length:Int) 1 8)),.cl 33 (.agg #[(Ac p),i6 (-1)]),.cl 34 (.agg (Ai.arr (Ae (win (y8.Ah.xs.length:Int) 1 8) 408 ⟨(p:Int), -1⟩)))] [1,2,4,5,19,30,41,48] [(92,#[.agg (Aj.arr c),Ac p],.bool (Az c p)),(93,#[(Ac p)],.agg #[(Ac p),i6 (-1)]),(62,#[.bool (Az c p),i6 405,.agg #[(Ac p),i6 (-1)]],.agg (Ai.arr (Ae (Az c p) 405 ⟨(p:Int), -1⟩))),(63,#[i6 y8.Fh,i6 0,i6 2],.bool (win y8.Fh 0 2)),(93,#[(Ac p)],.agg #[(Ac p),i6 (-1)]),(62,#[.bool false,i6 406,.agg #[(Ac p),i6 (-1)]],.agg (Ai.arr (Ae false 406 ⟨(p:Int), -1⟩))),(63,#[i6 y8.EU,i6 0,i6 16],.bool (win y8.EU 0 16)),(93,#[(Ac p)],.agg #[(Ac p),i6 (-1)]),(62,#[.bool false,i6 407,.agg #[(Ac p),i6 (-1)]],.agg (Ai.arr (Ae false 407 ⟨(p:Int), -1⟩))),(63,#[(Ac y8.Ah.xs.length),i6 1,i6 8],.bool (win (y8.Ah.xs.length:Int) 1 8)),(93,#[(Ac p)],.agg #[(Ac p),i6 (-1)]),(62,#[.bool (win (y8.Ah.xs.length:Int) 1 8),i6 408,.agg #[(Ac p),i6 (-1)]],.agg (Ai.arr (Ae (win (y8.Ah.xs.length:Int) 1 8) 408 ⟨(p:Int), -1⟩)))] (Dj 35 4) [Value.bool (win y8.Fh 0 2)=Value.bool false,Value.bool (win y8.EU 0 16)=Value.bool false] [(1,Ac p),(2,pt z),(Au z),(Aw z),(Ir c p),(NE p),(NQ p),(I5 p y8)] (.cells #[i6 0,i6 0,i6 0] 111 (0,0)) [0,1,2,3] ⟨(congrArg Value.bool (Bool.eq_false_iff.2 h11)),(congrArg Value.bool (Bool.eq_false_iff.2 h102)),Ag⟩ ⟨fun w150 hw150=>OQ w150 c (hc.ext (hw150.ext rfl) (fun _ h=>h)) p hp,fun w151 hw151=>Cm w151 (p:Int),fun w152 hw152=>AQ w152 (hL.ext (hw152.ext rfl)) (Az c p) 405 (p:Int) (-1),fun w153 hw153=>Bl w153 y8.Fh 0 2,fun w154 hw154=>Cm w154 (p:Int),fun w155 hw155=>AQ w155 (hL.ext (hw155.ext rfl)) false 406 (p:Int) (-1),fun w156 hw156=>Bl w156 y8.EU 0 16,fun w157 hw157=>Cm w157 (p:Int),fun w158 hw158=>AQ w158 (hL.ext (hw158.ext rfl)) false 407 (p:Int) (-1),fun w159 hw159=>Bl w159 (y8.Ah.xs.length:Int) 1 8,fun w160 hw160=>Cm w160 (p:Int),fun w161 hw161=>AQ w161 (hL.ext (hw161.ext rfl)) (win (y8.Ah.xs.length:Int) 1 8) 408 (p:Int) (-1),Ag⟩ ?_ (fun hv164 n162 hn163 => ?_)
   ·rintro⟨⟨n165,b166⟩,hb167⟩
    simp only at hb167
    refine Bo 35 ?_
    refine Bq o0 [6,1,2,4,5,49] [] [(6,pt b166),(1,Ac p),(2,pt z),(Au z),(Aw z),(49,.slice (some ⟨n165,0,none⟩) 4 4)] ⟨w,n165+1,[(Ak w),(AL c z),(AP z),(AO y8 z),(bk b166 #[i6 0,i6 0,i6 0] 111),(UF c p y8 n165)]⟩ [0,1,2,3] Ag (.inr rfl) ?_
    refine Bo 36 ?_
    refine EX 91 #[.slice (some ⟨n165,0,none⟩) 4 4] (some 50) (.agg (Ai.arr (AV [(Ae (Az c p) 405 ⟨(p:Int), -1⟩),(Ae false 406 ⟨(p:Int), -1⟩),(Ae false 407 ⟨(p:Int), -1⟩),(Ae (win (y8.Ah.xs.length:Int) 1 8) 408 ⟨(p:Int), -1⟩)]))) [6,1,2,4,5,50] [(6,pt b166),(1,Ac p),(2,pt z),(Au z),(Aw z),(NL c p y8)] [0,1,2,3] (fun w168 hw168=>CE w168 (hL.ext (hw168.ext rfl)) ⟨some ⟨n165,0,none⟩,4,[(Ae (Az c p) 405 ⟨(p:Int), -1⟩),(Ae false 406 ⟨(p:Int), -1⟩),(Ae false 407 ⟨(p:Int), -1⟩),(Ae (win (y8.Ah.xs.length:Int) 1 8) 408 ⟨(p:Int), -1⟩)]⟩ (Dy hw168 (i:=5) [(Ae (Az c p) 405 ⟨(p:Int), -1⟩),(Ae false 406 ⟨(p:Int), -1⟩),(Ae false 407 ⟨(p:Int), -1⟩),(Ae (win (y8.Ah.xs.length:Int) 1 8) 408 ⟨(p:Int), -1⟩)]) (show 4≤1000 by decide)) (fun n169 hn170 => ?_)
    replace hn170:n165+1≤n169:=hn170
    refine Bo 38 ?_
    refine Bq (an 3 4) [6,1,2,4,5] [Qb b166,Qb b166,Qb b166] [(6,pt b166),(1,Ac p),(2,pt z),(Au z),(Aw z)] ⟨w,n169,[(Ak w),(AL c z),(AP z),(AO y8 z),(VM c p y8 b166),(UF c p y8 n165)]⟩ [] ⟨rfl,rfl,rfl,Ag⟩ (.inl rfl) ?_
    refine D8 39 [0,1,2,3,4,5] [(Ak w),(AL c z),(AP z),(AO y8 z),(VM c p y8 b166),(UF c p y8 n165)] rfl rfl ?_
    refine CV ?_
    refine BR [1,2,4,5,6] [(1,Ac p),(2,pt z),(Au z),(Aw z),(6,pt b166)] ?_
    refine Cc [0,1,2,3,5,4] [(Ak w),(AL c z),(AP z),(AO y8 z),(UF c p y8 n165),(VM c p y8 b166)] rfl rfl ?_
    exact hK ⟨(n169,n165,b166),by first | omega | (dsimp only;omega)⟩
   replace hn163:z+3≤n162:=hn163
   refine Kq (fun x:{p:Nat×Nat×Nat // n162≤p.1∧n162≤p.2.1∧n162≤p.2.2}=>[(1,Ac p),(2,pt z),(Au z),(Aw z),(6,pt x.1.2.1),(NL c p y8)]) (fun x=>⟨w,x.1.1,[(Ak w),(AL c z),(AP z),(AO y8 z),(.blk x.1.2.1 (.cells #[i6 0,i6 0,i6 0] 111 (0,0)) true),(.blk x.1.2.2 (.cells #[i6 ((Ae (Az c p) 405 ⟨(p:Int), -1⟩).e),i6 ((Ae (Az c p) 405 ⟨(p:Int), -1⟩).Af.First),i6 ((Ae (Az c p) 405 ⟨(p:Int), -1⟩).Af.Second),i6 ((Ae false 406 ⟨(p:Int), -1⟩).e),i6 ((Ae false 406 ⟨(p:Int), -1⟩).Af.First),i6 ((Ae false 406 ⟨(p:Int), -1⟩).Af.Second),i6 ((Ae false 407 ⟨(p:Int), -1⟩).e),i6 ((Ae false 407 ⟨(p:Int), -1⟩).Af.First),i6 ((Ae false 407 ⟨(p:Int), -1⟩).Af.Second),i6 ((Ae (win (y8.Ah.xs.length:Int) 1 8) 408 ⟨(p:Int), -1⟩).e),i6 ((Ae (win (y8.Ah.xs.length:Int) 1 8) 408 ⟨(p:Int), -1⟩).Af.First),i6 ((Ae (win (y8.Ah.xs.length:Int) 1 8) 408 ⟨(p:Int), -1⟩).Af.Second)] 111 (0,0)) true)]⟩) 1 (Dj 38 1) ?_ (fun hv174 => ?_)
   ·rintro⟨⟨n171,b172,b173⟩,hb175⟩
    simp only at hb175
    show Wg _ _ [(1,Ac p),(2,pt z),(Au z),(Aw z),(6,pt b172),(NL c p y8)] _ ⟨w,n171,[(Ak w),(AL c z),(AP z),(AO y8 z),(bk b172 #[i6 0,i6 0,i6 0] 111),(TV c p y8 b173)]⟩ _ _ _ _ _ _ _
    refine Bo 38 ?_
    refine Bq (an 3 4) [1,2,4,5,6] [Qb b172,Qb b172,Qb b172] [(1,Ac p),(2,pt z),(Au z),(Aw z),(6,pt b172)] ⟨w,n171,[(Ak w),(AL c z),(AP z),(AO y8 z),(Vb c p y8 b172),(TV c p y8 b173)]⟩ [] ⟨rfl,rfl,rfl,Ag⟩ (.inl rfl) ?_
    refine D8 39 [0,1,2,3,4,5] [(Ak w),(AL c z),(AP z),(AO y8 z),(Vb c p y8 b172),(TV c p y8 b173)] rfl rfl ?_
    refine CV ?_
    refine BR [1,2,4,5,6] [(1,Ac p),(2,pt z),(Au z),(Aw z),(6,pt b172)] ?_
    refine Cc [0,1,2,3,5,4] [(Ak w),(AL c z),(AP z),(AO y8 z),(TV c p y8 b173),(Vb c p y8 b172)] rfl rfl ?_
    exact hK ⟨(n171,b173,b172),by first | omega | (dsimp only;omega)⟩
   refine Kq (fun x:{p:Nat×Nat×Nat // n162≤p.1∧n162≤p.2.1∧n162≤p.2.2}=>[(1,Ac p),(2,pt z),(Au z),(Aw z),(6,pt x.1.2.1),(49,.slice (some ⟨x.1.2.2,0,none⟩) 4 4)]) (fun x=>⟨w,x.1.1,[(Ak w),(AL c z),(AP z),(AO y8 z),(.blk x.1.2.1 (.cells #[i6 0,i6 0,i6 0] 111 (0,0)) true),(.blk x.1.2.2 (.cells #[i6 ((Ae (Az c p) 405 ⟨(p:Int), -1⟩).e),i6 ((Ae (Az c p) 405 ⟨(p:Int), -1⟩).Af.First),i6 ((Ae (Az c p) 405 ⟨(p:Int), -1⟩).Af.Second),i6 ((Ae false 406 ⟨(p:Int), -1⟩).e),i6 ((Ae false 406 ⟨(p:Int), -1⟩).Af.First),i6 ((Ae false 406 ⟨(p:Int), -1⟩).Af.Second),i6 ((Ae false 407 ⟨(p:Int), -1⟩).e),i6 ((Ae false 407 ⟨(p:Int), -1⟩).Af.First),i6 ((Ae false 407 ⟨(p:Int), -1⟩).Af.Second),i6 ((Ae (win (y8.Ah.xs.length:Int) 1 8) 408 ⟨(p:Int), -1⟩).e),i6 ((Ae (win (y8.Ah.xs.length:Int) 1 8) 408 ⟨(p:Int), -1⟩).Af.First),i6 ((Ae (win (y8.Ah.xs.length:Int) 1 8) 408 ⟨(p:Int), -1⟩).Af.Second)] 111 (0,0)) true)]⟩) 2 [true,true,true,true,true,true,true,true,true,true,true,true,true,true,true,true,true,true,true,true,true,true,true,true,true,true,true,true,true,true,true,true,true,true,true,true,false,true,false] ?_ (fun hv179 => ?_)
   ·rintro⟨⟨n176,b177,b178⟩,hb180⟩
    simp only at hb180
    show Wg _ _ [(1,Ac p),(2,pt z),(Au z),(Aw z),(6,pt b177),(49,.slice (some ⟨b178,0,none⟩) 4 4)] _ ⟨w,n176,[(Ak w),(AL c z),(AP z),(AO y8 z),(bk b177 #[i6 0,i6 0,i6 0] 111),(bk b178 #[i6 ((Ae (Az c p) 405 ⟨(p:Int), -1⟩).e),i6 ((Ae (Az c p) 405 ⟨(p:Int), -1⟩).Af.First),i6 ((Ae (Az c p) 405 ⟨(p:Int), -1⟩).Af.Second),i6 ((Ae false 406 ⟨(p:Int), -1⟩).e),i6 ((Ae false 406 ⟨(p:Int), -1⟩).Af.First),i6 ((Ae false 406 ⟨(p:Int), -1⟩).Af.Second),i6 ((Ae false 407 ⟨(p:Int), -1⟩).e),i6 ((Ae false 407 ⟨(p:Int), -1⟩).Af.First),i6 ((Ae false 407 ⟨(p:Int), -1⟩).Af.Second),i6 ((Ae (win (y8.Ah.xs.length:Int) 1 8) 408 ⟨(p:Int), -1⟩).e),i6 ((Ae (win (y8.Ah.xs.length:Int) 1 8) 408 ⟨(p:Int), -1⟩).Af.First),i6 ((Ae (win (y8.Ah.xs.length:Int) 1 8) 408 ⟨(p:Int), -1⟩).Af.Second)] 111)]⟩ _ _ _ _ _ _ _
    refine Bo 36 ?_
    refine EX 91 #[.slice (some ⟨b178,0,none⟩) 4 4] (some 50) (.agg (Ai.arr (AV [(Ae (Az c p) 405 ⟨(p:Int), -1⟩),(Ae false 406 ⟨(p:Int), -1⟩),(Ae false 407 ⟨(p:Int), -1⟩),(Ae (win (y8.Ah.xs.length:Int) 1 8) 408 ⟨(p:Int), -1⟩)]))) [1,2,4,5,6,50] [(1,Ac p),(2,pt z),(Au z),(Aw z),(6,pt b177),(NL c p y8)] [0,1,2,3] (fun w181 hw181=>CE w181 (hL.ext (hw181.ext rfl)) ⟨some ⟨b178,0,none⟩,4,[(Ae (Az c p) 405 ⟨(p:Int), -1⟩),(Ae false 406 ⟨(p:Int), -1⟩),(Ae false 407 ⟨(p:Int), -1⟩),(Ae (win (y8.Ah.xs.length:Int) 1 8) 408 ⟨(p:Int), -1⟩)]⟩ (Dy hw181 (i:=5) [(Ae (Az c p) 405 ⟨(p:Int), -1⟩),(Ae false 406 ⟨(p:Int), -1⟩),(Ae false 407 ⟨(p:Int), -1⟩),(Ae (win (y8.Ah.xs.length:Int) 1 8) 408 ⟨(p:Int), -1⟩)]) (show 4≤1000 by decide)) (fun n182 hn183 => ?_)
    replace hn183:n176≤n182:=hn183
    refine CZ [1,2,4,5,6,50] [(1,Ac p),(2,pt z),(Au z),(Aw z),(6,pt b177),(NL c p y8)] ?_
    exact hv174 ⟨(n182,b177,b178),by first | omega | (dsimp only;omega)⟩
   refine Ij [35,37] ?_
   refine List.forall_mem_cons.2 ⟨?_,List.forall_mem_cons.2 ⟨?_,fun _ h=>absurd h List.not_mem_nil⟩⟩
   ·refine Bq o0 [1,2,4,5,49] [] [(1,Ac p),(2,pt z),(Au z),(Aw z),(49,.slice (some ⟨n162,0,none⟩) 4 4)] ⟨w,n162+1,[(Ak w),(AL c z),(AP z),(AO y8 z),(QX c p y8 n162)]⟩ [0,1,2,3] Ag (.inr rfl) ?_
    refine Ij [36,37] ?_
    refine List.forall_mem_cons.2 ⟨?_,List.forall_mem_cons.2 ⟨?_,fun _ h=>absurd h List.not_mem_nil⟩⟩
    ·refine EX 91 #[.slice (some ⟨n162,0,none⟩) 4 4] (some 50) (.agg (Ai.arr (AV [(Ae (Az c p) 405 ⟨(p:Int), -1⟩),(Ae false 406 ⟨(p:Int), -1⟩),(Ae false 407 ⟨(p:Int), -1⟩),(Ae (win (y8.Ah.xs.length:Int) 1 8) 408 ⟨(p:Int), -1⟩)]))) [1,2,4,5,50] [(1,Ac p),(2,pt z),(Au z),(Aw z),(NL c p y8)] [0,1,2,3] (fun w184 hw184=>CE w184 (hL.ext (hw184.ext rfl)) ⟨some ⟨n162,0,none⟩,4,[(Ae (Az c p) 405 ⟨(p:Int), -1⟩),(Ae false 406 ⟨(p:Int), -1⟩),(Ae false 407 ⟨(p:Int), -1⟩),(Ae (win (y8.Ah.xs.length:Int) 1 8) 408 ⟨(p:Int), -1⟩)]⟩ (Dy hw184 (i:=4) [(Ae (Az c p) 405 ⟨(p:Int), -1⟩),(Ae false 406 ⟨(p:Int), -1⟩),(Ae false 407 ⟨(p:Int), -1⟩),(Ae (win (y8.Ah.xs.length:Int) 1 8) 408 ⟨(p:Int), -1⟩)]) (show 4≤1000 by decide)) (fun n185 hn186 => ?_)
     replace hn186:n162+1≤n185:=hn186
     refine Bo 37 ?_
     refine Bq o0 [1,2,4,5,50,6] [] [(1,Ac p),(2,pt z),(Au z),(Aw z),(NL c p y8),(6,pt n185)] ⟨w,n185+1,[(Ak w),(AL c z),(AP z),(AO y8 z),(QX c p y8 n162),(bk n185 #[i6 0,i6 0,i6 0] 111)]⟩ [0,1,2,3] Ag (.inr rfl) ?_
     refine Jl [0,1,2,3,5,4] [(Ak w),(AL c z),(AP z),(AO y8 z),(bk n185 #[i6 0,i6 0,i6 0] 111),(QX c p y8 n162)] rfl rfl ?_
     refine CZ [1,2,4,5,6,50] [(1,Ac p),(2,pt z),(Au z),(Aw z),(6,pt n185),(NL c p y8)] ?_
     exact hv174 ⟨(n185+1,n185,n162),by first | omega | (dsimp only;omega)⟩
    refine Bq o0 [1,2,4,5,49,6] [] [(1,Ac p),(2,pt z),(Au z),(Aw z),(49,.slice (some ⟨n162,0,none⟩) 4 4),(6,pt (n162+1))] ⟨w,n162+2,[(Ak w),(AL c z),(AP z),(AO y8 z),(QX c p y8 n162),(bk (n162+1) #[i6 0,i6 0,i6 0] 111)]⟩ [0,1,2,3] Ag (.inr rfl) ?_
    refine Jl [0,1,2,3,5,4] [(Ak w),(AL c z),(AP z),(AO y8 z),(bk (n162+1) #[i6 0,i6 0,i6 0] 111),(QX c p y8 n162)] rfl rfl ?_
    refine CZ [1,2,4,5,6,49] [(1,Ac p),(2,pt z),(Au z),(Aw z),(6,pt (n162+1)),(49,.slice (some ⟨n162,0,none⟩) 4 4)] ?_
    exact hv179 ⟨(n162+2,n162+1,n162),by first | omega | (dsimp only;omega)⟩
   refine Bq o0 [1,2,4,5,19,30,41,48,6] [] [(1,Ac p),(2,pt z),(Au z),(Aw z),(Ir c p),(NE p),(NQ p),(I5 p y8),(6,pt n162)] ⟨w,n162+1,[(Ak w),(AL c z),(AP z),(AO y8 z),(bk n162 #[i6 0,i6 0,i6 0] 111)]⟩ [0,1,2,3] Ag (.inr rfl) ?_
   refine CZ [6,1,2,4,5,19,30,41,48] [(6,pt n162),(1,Ac p),(2,pt z),(Au z),(Aw z),(Ir c p),(NE p),(NQ p),(I5 p y8)] ?_
   exact hv164 ⟨(n162+1,n162),by first | omega | (dsimp only;omega)⟩
  rintro⟨⟨n147,b148,b149⟩,hJ187⟩
  simp only at hJ187
  show E _ _ [(1,Ac p),(2,pt z),(Au z),(Aw z),(6,pt b149)] _ ⟨w,n147,[(Ak w),(AL c z),(AP z),(AO y8 z),(bk b148 #[i6 ((Ae (Az c p) 405 ⟨(p:Int), -1⟩).e),i6 ((Ae (Az c p) 405 ⟨(p:Int), -1⟩).Af.First),i6 ((Ae (Az c p) 405 ⟨(p:Int), -1⟩).Af.Second),i6 ((Ae false 406 ⟨(p:Int), -1⟩).e),i6 ((Ae false 406 ⟨(p:Int), -1⟩).Af.First),i6 ((Ae false 406 ⟨(p:Int), -1⟩).Af.Second),i6 ((Ae false 407 ⟨(p:Int), -1⟩).e),i6 ((Ae false 407 ⟨(p:Int), -1⟩).Af.First),i6 ((Ae false 407 ⟨(p:Int), -1⟩).Af.Second),i6 ((Ae (win (y8.Ah.xs.length:Int) 1 8) 408 ⟨(p:Int), -1⟩).e),i6 ((Ae (win (y8.Ah.xs.length:Int) 1 8) 408 ⟨(p:Int), -1⟩).Af.First),i6 ((Ae (win (y8.Ah.xs.length:Int) 1 8) 408 ⟨(p:Int), -1⟩).Af.Second)] 111),(V8 c p y8 b149)]⟩ _ _ _
  refine Cc [0,1,2,3,5] [(Ak w),(AL c z),(AP z),(AO y8 z),(V8 c p y8 b149)] rfl rfl ?_
  have eA:AV (GY c p)=(AV [(Ae (Az c p) 405 ⟨(p:Int), -1⟩),(Ae false 406 ⟨(p:Int), -1⟩),(Ae false 407 ⟨(p:Int), -1⟩),(Ae (win (y8.Ah.xs.length:Int) 1 8) 408 ⟨(p:Int), -1⟩)]):=by have e0:ES c p=y8:=hy8.symm;unfold GY;simp only[e0];simp[h11,h102]
  refine BR [1,2,4,5,6] [(1,Ac p),(2,pt z),(Au z),(Aw z),(6,pt b149)] ?_
  refine Cj (fun a w' hs=>⟨n147,b149,by omega,(by(try dsimp only[TC,V8,AP,AO,AL,I5,L6,Ir,NQ,NE,Nw,Au,Aw,Cb]at hs ⊢);rw[eA];exact hs)⟩)
 rintro a w' ⟨n9,b6,hn10,hs⟩
 refine(?_:G Tryd.prog 118 [(1,Ac p),(2,pt z),(Au z),(Aw z),(Cb b6)] [] ⟨w,n9,[(Ak w),(AL c z),(AP z),(AO y8 z),(.blk b6 (.cells (Ai.arr (AV (GY c p))) 111 (0,0)) true)]⟩ _ _ _) a w' hs
 clear hs a w'
 refine RD (fun a w'=>∃ (n188:Nat),n9≤n188∧St 118 [(1,Ac p),(2,pt z),(Au z),(Aw z),(Cb b6)] [] ⟨w,n188,(Hg c p y8 b6 z w)⟩ a w') ?_ ?_
 ·refine A7 5 0 [] [[o0]] [] [(1,Ac p),(2,pt z),(Au z),(Aw z),(Cb b6),(7,i6 0)] rfl Ag ?_
  refine DW (fun m a w'=>∃ (n191:Nat) (k:Nat),m=y8.Ah.xs.length - k∧n9≤n191∧(k≤y8.Ah.xs.length)∧St 118 [(1,Ac p),(2,pt z),(Au z),(Aw z),(Cb b6),(7,Ac k)] [] ⟨w,n191,[(Ak w),(AL c z),(AP z),(AO y8 z),(.blk b6 (.cells (Ai.arr (Em (AV (GY c p)) (Fe c p) k)) 111 (0,0)) true)]⟩ a w') (y8.Ah.xs.length - 0) ?_ ?_
  ·intro a w' hs;exact⟨n9,0,rfl,Nat.le_refl _,Nat.zero_le _,(by(try dsimp only[AP,Ha,AO,AL,Au,Aw,Cb,Hg]at hs ⊢);rw[Oo];exact hs)⟩
  rintro m a w' ⟨n191,k,rfl,hn190,hkk,hs⟩
  refine(?_:G Tryd.prog 118 [(1,Ac p),(2,pt z),(Au z),(Aw z),(Cb b6),(7,Ac k)] [] ⟨w,n191,[(Ak w),(AL c z),(AP z),(AO y8 z),(.blk b6 (.cells (Ai.arr (Em (AV (GY c p)) (Fe c p) k)) 111 (0,0)) true)]⟩ _ _ _) a w' hs
  clear hs a w'
  refine DC <| DC ?_
  by_cases h192:(k:Int)<(y8.Ah.xs.length:Int)
  ·by_cases h193:(((Em (AV (GY c p)) (Fe c p) k).e:Int)==(0:Int)&&((((Em (AV (GY c p)) (Fe c p) k).Af.First:Int)==(0:Int)&&(((Em (AV (GY c p)) (Fe c p) k).Af.Second:Int)==(0:Int)&&true))&&true))=true
   ·refine A7 9 3 [1] [[o0,o0,(a1 3),o0,oT,o0,(an 3 4),(oa [.via 0 (i6 0),.via 0 (i6 0),.via 0 (i6 0)]),⟨.seq true,none⟩,o0],[(an 7 1),o0,o0]] [Qb (z+2),BT ((k:Int)<(y8.Ah.xs.length:Int)),Qb b6,Qb b6,Qb b6,Old w 0 0 (i6 0),Old w 0 1 (i6 0),Old w 0 2 (i6 0),(((Em (AV (GY c p)) (Fe c p) k).e:Int)==(0:Int)&&((((Em (AV (GY c p)) (Fe c p) k).Af.First:Int)==(0:Int)&&(((Em (AV (GY c p)) (Fe c p) k).Af.Second:Int)==(0:Int)&&true))&&true))=true,Qb z,Qb z,Qb z,Qb z,Qb z,Qb z,Qb z] [(1,Ac p),(2,pt z),(Au z),(Aw z),(Cb b6),(7,Ac k),(63,.agg (Aj.arr c)),(64,Ac p),(65,Ac k)] rfl ⟨rfl,bt,rfl,rfl,rfl,Aq (hL.2 0 _ rfl),Aq (hL.2 1 _ rfl),Aq (hL.2 2 _ rfl),h193,rfl,rfl,rfl,rfl,rfl,rfl,rfl,Ag⟩ ?_
    refine Bz 94 #[.agg (Aj.arr c),Ac p,Ac k] (some 66) (.agg (Ai.arr (Fe c p k))) (fun w194 hw194=>WI w194 (hL.ext (hw194.ext rfl)) c (hc.ext (hw194.ext rfl) (fun _ h=>h)) p k hp (by rw[←hy8];omega) hFr (bd_all hFr hpf (KL (EI.1 h193)).2)) (fun n195 (hn196:n191≤n195) => ?_)
    refine FD 5 0 [] [[(an 3 4)],[o0,(ov (i6 ((k+1:Nat):Int))),o0]] [Qb b6,Qb b6,Qb b6,Wr ((k:Int)+1) (((k+1:Nat):Int))] [(1,Ac p),(2,pt z),(Au z),(Aw z),(Cb b6),(7,i6 ((k+1:Nat):Int))] ⟨w,n195,[(Ak w),(AL c z),(AP z),(AO y8 z),(bk b6 (Ai.arr (Fe c p k)) 111)]⟩ rfl ⟨rfl,rfl,rfl,CU,Ag⟩ ?_
    have eS:=Ob (EI.1 h193)
    refine BR [1,2,4,5,6,7] [(1,Ac p),(2,pt z),(Au z),(Aw z),(Cb b6),(7,i6 ((k+1:Nat):Int))] ?_
    refine Cj (fun a w' hs=>⟨y8.Ah.xs.length - (k+1),by omega,n195,(k+1),rfl,by omega,by omega,(by(try dsimp only[AP,Ha,AO,AL,Au,Aw,Cb,Hg]at hs ⊢);rw[eS];exact hs)⟩)
   refine A7 8 0 [0] [[o0,o0,(a1 3),o0,oT,o0,(an 3 4),(oa [.via 0 (i6 0),.via 0 (i6 0),.via 0 (i6 0)]),⟨.seq false,none⟩,o0]] [Qb (z+2),BT ((k:Int)<(y8.Ah.xs.length:Int)),Qb b6,Qb b6,Qb b6,Old w 0 0 (i6 0),Old w 0 1 (i6 0),Old w 0 2 (i6 0),(((Em (AV (GY c p)) (Fe c p) k).e:Int)==(0:Int)&&((((Em (AV (GY c p)) (Fe c p) k).Af.First:Int)==(0:Int)&&(((Em (AV (GY c p)) (Fe c p) k).Af.Second:Int)==(0:Int)&&true))&&true))=false] [(1,Ac p),(2,pt z),(Au z),(Aw z),(Cb b6),(7,Ac k),(60,.bool false)] rfl ⟨rfl,bt,rfl,rfl,rfl,Aq (hL.2 0 _ rfl),Aq (hL.2 1 _ rfl),Aq (hL.2 2 _ rfl),(Bool.eq_false_iff.2 h193),Ag⟩ ?_
   have eB:(Ik c p)=(Em (AV (GY c p)) (Fe c p) k):=KN (fun e=>h193 (EI.2 e)) (by dsimp only[ES];rw[←hy8];omega)
   refine BR [1,2,4,5,6] [(1,Ac p),(2,pt z),(Au z),(Aw z),(Cb b6)] ?_
   refine Cj (fun a w' hs=>⟨n191,by omega,(by(try dsimp only[AP,Ha,AO,AL,Au,Aw,Cb,Hg]at hs ⊢);rw[eB];exact hs)⟩)
  refine A7 8 0 [0] [[o0,o0,(a1 3),o0,oF,o0,o0]] [Qb (z+2),BF ((k:Int)<(y8.Ah.xs.length:Int))] [(1,Ac p),(2,pt z),(Au z),(Aw z),(Cb b6),(7,Ac k),(60,.bool false)] rfl ⟨rfl,bf,Ag⟩ ?_
  have eB:(Ik c p)=(Em (AV (GY c p)) (Fe c p) k):=congrArg (Em _ _) (by dsimp only[ES];rw[←hy8];omega)
  refine BR [1,2,4,5,6] [(1,Ac p),(2,pt z),(Au z),(Aw z),(Cb b6)] ?_
  refine Cj (fun a w' hs=>⟨n191,by omega,(by(try dsimp only[AP,Ha,AO,AL,Au,Aw,Cb,Hg]at hs ⊢);rw[eB];exact hs)⟩)
 rintro a w' ⟨n188,hn189,hs⟩
 refine(?_:G Tryd.prog 118 [(1,Ac p),(2,pt z),(Au z),(Aw z),(Cb b6)] [] ⟨w,n188,(Hg c p y8 b6 z w)⟩ _ _ _) a w' hs
 clear hs a w'
 refine DC <| DC ?_
 by_cases h197:(((Ik c p).e:Int)==(0:Int)&&((((Ik c p).Af.First:Int)==(0:Int)&&(((Ik c p).Af.Second:Int)==(0:Int)&&true))&&true))=true
 ·have hB0:=EI.1 h197
  refine A7 6 0 [0] [[(an 3 4),(oa [.via 0 (i6 0),.via 0 (i6 0),.via 0 (i6 0)]),⟨.seq true,none⟩]] [Qb b6,Qb b6,Qb b6,Old w 0 0 (i6 0),Old w 0 1 (i6 0),Old w 0 2 (i6 0),(((Ik c p).e:Int)==(0:Int)&&((((Ik c p).Af.First:Int)==(0:Int)&&(((Ik c p).Af.Second:Int)==(0:Int)&&true))&&true))=true] [(1,Ac p),(2,pt z),(Au z),(Aw z),(Cb b6),(69,.bool false)] rfl ⟨rfl,rfl,rfl,Aq (hL.2 0 _ rfl),Aq (hL.2 1 _ rfl),Aq (hL.2 2 _ rfl),h197,Ag⟩ ?_
  refine RD (fun a w'=>∃ (n198:Nat),n188≤n198∧St 118 [(1,Ac p),(2,pt z),(Au z),(Aw z),(Cb b6)] [] ⟨w,n198,[(Ak w),(AL c z),(AP z),(AO y8 z),(.blk b6 (.cells (Ai.arr (AV (Hq c p))) 111 (0,0)) true)]⟩ a w') ?_ ?_
  ·by_cases h200:(win y8.Entry 0 4095)=true
   ·have hd201:=Es h200
    by_cases h202:(8:Int)<(y8.AB.xs.length:Int)
    ·refine DN 19 [0,1,2,3,4] (Hg c p y8 b6 z w) rfl rfl ?_
     refine Jj [.tk 0 o0,.tk 1 (a1 3),.tk 7 o0,.tk 10 o0,.tk 11 (a1 3),.tk 12 o0,.tk 13 oF,.tk 14 o0,.cl 2 (.bool (win y8.Entry 0 4095)),.tk 3 (ov (.bool true)),.tk 4 (an 8 3),.cl 5 (.bool (F9 y8)),.tk 6 o0,.cl 8 (.agg #[(Ac p),i6 (-1)]),.cl 9 (.agg (Ai.arr (Ae (F9 y8) 412 ⟨(p:Int), -1⟩))),.cl 15 (.agg #[(Ac p),i6 (-1)]),.cl 16 (.agg (Ai.arr (Ae false 413 ⟨(p:Int), -1⟩)))] [1,2,4,5,6,80,87] [(63,#[i6 y8.Entry,i6 0,i6 4095],.bool (win y8.Entry 0 4095)),(95,#[.agg (Ar.arr y8)],.bool (F9 y8)),(93,#[(Ac p)],.agg #[(Ac p),i6 (-1)]),(62,#[.bool (F9 y8),i6 412,.agg #[(Ac p),i6 (-1)]],.agg (Ai.arr (Ae (F9 y8) 412 ⟨(p:Int), -1⟩))),(93,#[(Ac p)],.agg #[(Ac p),i6 (-1)]),(62,#[.bool false,i6 413,.agg #[(Ac p),i6 (-1)]],.agg (Ai.arr (Ae false 413 ⟨(p:Int), -1⟩)))] (Dj 17 3) [Qb (z+2),Qb (z+2),BF ((y8.AB.xs.length:Int)≤8),Value.bool (win y8.Entry 0 4095)=Value.bool true,Qb (z+2),Qb (z+2),Qb (z+2),Qb (z+2),Qb (z+2),Qb (z+2),Qb (z+2),Qb (z+2)] [(1,Ac p),(2,pt z),(Au z),(Aw z),(Cb b6),(80,.agg (Ai.arr (Ae (F9 y8) 412 ⟨(p:Int), -1⟩))),(87,.agg (Ai.arr (Ae false 413 ⟨(p:Int), -1⟩)))] [0,1,2,3,4] ⟨rfl,rfl,bf,(congrArg Value.bool h200),rfl,rfl,rfl,rfl,rfl,rfl,rfl,rfl,Ag⟩ ⟨fun w203 hw203=>Bl w203 y8.Entry 0 4095,fun w204 hw204=>UK w204 y8 (he7.ext (hw204.ext rfl) (fun _ h=>h)) (by omega) (fun k hk=>by have hz:=RN hFr.2 hB0 k (by dsimp only[ES];rw[←hy8];exact hk);dsimp only[Dk]at hz;rw[←hy8]at hz;exact⟨hz.1,hz.2.1⟩),fun w205 hw205=>Cm w205 (p:Int),fun w206 hw206=>AQ w206 (hL.ext (hw206.ext rfl)) (F9 y8) 412 (p:Int) (-1),fun w207 hw207=>Cm w207 (p:Int),fun w208 hw208=>AQ w208 (hL.ext (hw208.ext rfl)) false 413 (p:Int) (-1),Ag⟩ (fun n209 hn210 => ?_)
     replace hn210:n188≤n209:=hn210
     refine Bo 17 ?_
     refine Bq o0 [1,2,4,5,6,88] [] [(1,Ac p),(2,pt z),(Au z),(Aw z),(Cb b6),(88,.slice (some ⟨n209,0,none⟩) 2 2)] ⟨w,n209+1,[(Ak w),(AL c z),(AP z),(AO y8 z),(Ha c p b6),(TE p y8 n209)]⟩ [0,1,2,3,4] Ag (.inr rfl) ?_
     refine Bo 18 ?_
     refine EX 91 #[.slice (some ⟨n209,0,none⟩) 2 2] (some 89) (.agg (Ai.arr (AV [(Ae (F9 y8) 412 ⟨(p:Int), -1⟩),(Ae false 413 ⟨(p:Int), -1⟩)]))) [1,2,4,5,6,89] [(1,Ac p),(2,pt z),(Au z),(Aw z),(Cb b6),(89,.agg (Ai.arr (AV [(Ae (F9 y8) 412 ⟨(p:Int), -1⟩),(Ae false 413 ⟨(p:Int), -1⟩)])))] [0,1,2,3,4] (fun w211 hw211=>CE w211 (hL.ext (hw211.ext rfl)) ⟨some ⟨n209,0,none⟩,2,[(Ae (F9 y8) 412 ⟨(p:Int), -1⟩),(Ae false 413 ⟨(p:Int), -1⟩)]⟩ (Dy hw211 (i:=5) [(Ae (F9 y8) 412 ⟨(p:Int), -1⟩),(Ae false 413 ⟨(p:Int), -1⟩)]) (show 2≤1000 by decide)) (fun n212 hn213 => ?_)
     replace hn213:n209+1≤n212:=hn213
     refine Bo 19 ?_
     refine Bq (an 3 4) [1,2,4,5,6] [Qb b6,Qb b6,Qb b6] [(1,Ac p),(2,pt z),(Au z),(Aw z),(Cb b6)] ⟨w,n212,[(Ak w),(AL c z),(AP z),(AO y8 z),(TT p y8 b6),(TE p y8 n209)]⟩ [] ⟨rfl,rfl,rfl,Ag⟩ (.inl rfl) ?_
     refine D8 20 [0,1,2,3,4,5] [(Ak w),(AL c z),(AP z),(AO y8 z),(TT p y8 b6),(TE p y8 n209)] rfl rfl ?_
     refine CV ?_
     refine BR [1,2,4,5,6] [(1,Ac p),(2,pt z),(Au z),(Aw z),(Cb b6)] ?_
     refine Cc [0,1,2,3,4] [(Ak w),(AL c z),(AP z),(AO y8 z),(TT p y8 b6)] rfl rfl ?_
     have eB:(AV (Hq c p))=(AV [(Ae (F9 y8) 412 ⟨(p:Int), -1⟩),(Ae false 413 ⟨(p:Int), -1⟩)]):=by have e0:ES c p=y8:=hy8.symm;unfold Hq;simp only[e0];first | simp[h200,show ¬ y8.AB.xs.length≤8 by omega] | simp[h200,show y8.AB.xs.length≤8 by omega]
     refine BR [1,2,4,5,6] [(1,Ac p),(2,pt z),(Au z),(Aw z),(Cb b6)] ?_
     refine Cj (fun a w' hs=>⟨n212,by omega,(by(try dsimp only[TE,TT,AP,Ha,AO,AL,Au,Aw,Cb,Hg]at hs ⊢);rw[eB];exact hs)⟩)
    refine DN 19 [0,1,2,3,4] (Hg c p y8 b6 z w) rfl rfl ?_
    refine Jj [.tk 0 o0,.tk 1 (a1 3),.tk 7 o0,.tk 10 o0,.tk 11 (a1 3),.tk 12 o0,.tk 13 oT,.tk 14 o0,.cl 2 (.bool (win y8.Entry 0 4095)),.tk 3 (ov (.bool true)),.tk 4 (an 8 3),.cl 5 (.bool (F9 y8)),.tk 6 o0,.cl 8 (.agg #[(Ac p),i6 (-1)]),.cl 9 (.agg (Ai.arr (Ae (F9 y8) 412 ⟨(p:Int), -1⟩))),.cl 15 (.agg #[(Ac p),i6 (-1)]),.cl 16 (.agg (Ai.arr (Ae true 413 ⟨(p:Int), -1⟩)))] [1,2,4,5,6,80,87] [(63,#[i6 y8.Entry,i6 0,i6 4095],.bool (win y8.Entry 0 4095)),(95,#[.agg (Ar.arr y8)],.bool (F9 y8)),(93,#[(Ac p)],.agg #[(Ac p),i6 (-1)]),(62,#[.bool (F9 y8),i6 412,.agg #[(Ac p),i6 (-1)]],.agg (Ai.arr (Ae (F9 y8) 412 ⟨(p:Int), -1⟩))),(93,#[(Ac p)],.agg #[(Ac p),i6 (-1)]),(62,#[.bool true,i6 413,.agg #[(Ac p),i6 (-1)]],.agg (Ai.arr (Ae true 413 ⟨(p:Int), -1⟩)))] (Dj 17 3) [Qb (z+2),Qb (z+2),BT ((y8.AB.xs.length:Int)≤8),Value.bool (win y8.Entry 0 4095)=Value.bool true,Qb (z+2),Qb (z+2),Qb (z+2),Qb (z+2),Qb (z+2),Qb (z+2),Qb (z+2),Qb (z+2)] [(1,Ac p),(2,pt z),(Au z),(Aw z),(Cb b6),(80,.agg (Ai.arr (Ae (F9 y8) 412 ⟨(p:Int), -1⟩))),(87,.agg (Ai.arr (Ae true 413 ⟨(p:Int), -1⟩)))] [0,1,2,3,4] ⟨rfl,rfl,bt,(congrArg Value.bool h200),rfl,rfl,rfl,rfl,rfl,rfl,rfl,rfl,Ag⟩ ⟨fun w214 hw214=>Bl w214 y8.Entry 0 4095,fun w215 hw215=>UK w215 y8 (he7.ext (hw215.ext rfl) (fun _ h=>h)) (by omega) (fun k hk=>by have hz:=RN hFr.2 hB0 k (by dsimp only[ES];rw[←hy8];exact hk);dsimp only[Dk]at hz;rw[←hy8]at hz;exact⟨hz.1,hz.2.1⟩),fun w216 hw216=>Cm w216 (p:Int),fun w217 hw217=>AQ w217 (hL.ext (hw217.ext rfl)) (F9 y8) 412 (p:Int) (-1),fun w218 hw218=>Cm w218 (p:Int),fun w219 hw219=>AQ w219 (hL.ext (hw219.ext rfl)) true 413 (p:Int) (-1),Ag⟩ (fun n220 hn221 => ?_)
    replace hn221:n188≤n220:=hn221
    refine Bo 17 ?_
    refine Bq o0 [1,2,4,5,6,88] [] [(1,Ac p),(2,pt z),(Au z),(Aw z),(Cb b6),(88,.slice (some ⟨n220,0,none⟩) 2 2)] ⟨w,n220+1,[(Ak w),(AL c z),(AP z),(AO y8 z),(Ha c p b6),(Tv p y8 n220)]⟩ [0,1,2,3,4] Ag (.inr rfl) ?_
    refine Bo 18 ?_
    refine EX 91 #[.slice (some ⟨n220,0,none⟩) 2 2] (some 89) (.agg (Ai.arr (AV [(Ae (F9 y8) 412 ⟨(p:Int), -1⟩),(Ae true 413 ⟨(p:Int), -1⟩)]))) [1,2,4,5,6,89] [(1,Ac p),(2,pt z),(Au z),(Aw z),(Cb b6),(89,.agg (Ai.arr (AV [(Ae (F9 y8) 412 ⟨(p:Int), -1⟩),(Ae true 413 ⟨(p:Int), -1⟩)])))] [0,1,2,3,4] (fun w222 hw222=>CE w222 (hL.ext (hw222.ext rfl)) ⟨some ⟨n220,0,none⟩,2,[(Ae (F9 y8) 412 ⟨(p:Int), -1⟩),(Ae true 413 ⟨(p:Int), -1⟩)]⟩ (Dy hw222 (i:=5) [(Ae (F9 y8) 412 ⟨(p:Int), -1⟩),(Ae true 413 ⟨(p:Int), -1⟩)]) (show 2≤1000 by decide)) (fun n223 hn224 => ?_)
    replace hn224:n220+1≤n223:=hn224
    refine Bo 19 ?_
    refine Bq (an 3 4) [1,2,4,5,6] [Qb b6,Qb b6,Qb b6] [(1,Ac p),(2,pt z),(Au z),(Aw z),(Cb b6)] ⟨w,n223,[(Ak w),(AL c z),(AP z),(AO y8 z),(TM p y8 b6),(Tv p y8 n220)]⟩ [] ⟨rfl,rfl,rfl,Ag⟩ (.inl rfl) ?_
    refine D8 20 [0,1,2,3,4,5] [(Ak w),(AL c z),(AP z),(AO y8 z),(TM p y8 b6),(Tv p y8 n220)] rfl rfl ?_
    refine CV ?_
    refine BR [1,2,4,5,6] [(1,Ac p),(2,pt z),(Au z),(Aw z),(Cb b6)] ?_
    refine Cc [0,1,2,3,4] [(Ak w),(AL c z),(AP z),(AO y8 z),(TM p y8 b6)] rfl rfl ?_
    have eB:(AV (Hq c p))=(AV [(Ae (F9 y8) 412 ⟨(p:Int), -1⟩),(Ae true 413 ⟨(p:Int), -1⟩)]):=by have e0:ES c p=y8:=hy8.symm;unfold Hq;simp only[e0];first | simp[h200,show ¬ y8.AB.xs.length≤8 by omega] | simp[h200,show y8.AB.xs.length≤8 by omega]
    refine BR [1,2,4,5,6] [(1,Ac p),(2,pt z),(Au z),(Aw z),(Cb b6)] ?_
    refine Cj (fun a w' hs=>⟨n223,by omega,(by(try dsimp only[Tv,TM,AP,Ha,AO,AL,Au,Aw,Cb,Hg]at hs ⊢);rw[eB];exact hs)⟩)
   have hd225:=Jn h200
   by_cases h226:(8:Int)<(y8.AB.xs.length:Int)
   ·refine DN 19 [0,1,2,3,4] (Hg c p y8 b6 z w) rfl rfl ?_
    refine Jj [.tk 0 o0,.tk 1 (a1 3),.tk 7 o0,.tk 10 o0,.tk 11 (a1 3),.tk 12 o0,.tk 13 oF,.tk 14 o0,.cl 2 (.bool (win y8.Entry 0 4095)),.tk 3 (ov (.bool false)),.tk 4 o0,.tk 5 o0,.tk 6 o0,.cl 8 (.agg #[(Ac p),i6 (-1)]),.cl 9 (.agg (Ai.arr (Ae false 412 ⟨(p:Int), -1⟩))),.cl 15 (.agg #[(Ac p),i6 (-1)]),.cl 16 (.agg (Ai.arr (Ae false 413 ⟨(p:Int), -1⟩)))] [1,2,4,5,6,80,87] [(63,#[i6 y8.Entry,i6 0,i6 4095],.bool (win y8.Entry 0 4095)),(93,#[(Ac p)],.agg #[(Ac p),i6 (-1)]),(62,#[.bool false,i6 412,.agg #[(Ac p),i6 (-1)]],.agg (Ai.arr (Ae false 412 ⟨(p:Int), -1⟩))),(93,#[(Ac p)],.agg #[(Ac p),i6 (-1)]),(62,#[.bool false,i6 413,.agg #[(Ac p),i6 (-1)]],.agg (Ai.arr (Ae false 413 ⟨(p:Int), -1⟩)))] (Dj 17 3) [Qb (z+2),Qb (z+2),BF ((y8.AB.xs.length:Int)≤8),Value.bool (win y8.Entry 0 4095)=Value.bool false] [(1,Ac p),(2,pt z),(Au z),(Aw z),(Cb b6),(80,.agg (Ai.arr (Ae false 412 ⟨(p:Int), -1⟩))),(87,.agg (Ai.arr (Ae false 413 ⟨(p:Int), -1⟩)))] [0,1,2,3,4] ⟨rfl,rfl,bf,(congrArg Value.bool (Bool.eq_false_iff.2 h200)),Ag⟩ ⟨fun w227 hw227=>Bl w227 y8.Entry 0 4095,fun w228 hw228=>Cm w228 (p:Int),fun w229 hw229=>AQ w229 (hL.ext (hw229.ext rfl)) false 412 (p:Int) (-1),fun w230 hw230=>Cm w230 (p:Int),fun w231 hw231=>AQ w231 (hL.ext (hw231.ext rfl)) false 413 (p:Int) (-1),Ag⟩ (fun n232 hn233 => ?_)
    replace hn233:n188≤n232:=hn233
    refine Bo 17 ?_
    refine Bq o0 [1,2,4,5,6,88] [] [(1,Ac p),(2,pt z),(Au z),(Aw z),(Cb b6),(88,.slice (some ⟨n232,0,none⟩) 2 2)] ⟨w,n232+1,[(Ak w),(AL c z),(AP z),(AO y8 z),(Ha c p b6),(TB p n232)]⟩ [0,1,2,3,4] Ag (.inr rfl) ?_
    refine Bo 18 ?_
    refine EX 91 #[.slice (some ⟨n232,0,none⟩) 2 2] (some 89) (.agg (Ai.arr (AV [(Ae false 412 ⟨(p:Int), -1⟩),(Ae false 413 ⟨(p:Int), -1⟩)]))) [1,2,4,5,6,89] [(1,Ac p),(2,pt z),(Au z),(Aw z),(Cb b6),(89,.agg (Ai.arr (AV [(Ae false 412 ⟨(p:Int), -1⟩),(Ae false 413 ⟨(p:Int), -1⟩)])))] [0,1,2,3,4] (fun w234 hw234=>CE w234 (hL.ext (hw234.ext rfl)) ⟨some ⟨n232,0,none⟩,2,[(Ae false 412 ⟨(p:Int), -1⟩),(Ae false 413 ⟨(p:Int), -1⟩)]⟩ (Dy hw234 (i:=5) [(Ae false 412 ⟨(p:Int), -1⟩),(Ae false 413 ⟨(p:Int), -1⟩)]) (show 2≤1000 by decide)) (fun n235 hn236 => ?_)
    replace hn236:n232+1≤n235:=hn236
    refine Bo 19 ?_
    refine Bq (an 3 4) [1,2,4,5,6] [Qb b6,Qb b6,Qb b6] [(1,Ac p),(2,pt z),(Au z),(Aw z),(Cb b6)] ⟨w,n235,[(Ak w),(AL c z),(AP z),(AO y8 z),(Ti p b6),(TB p n232)]⟩ [] ⟨rfl,rfl,rfl,Ag⟩ (.inl rfl) ?_
    refine D8 20 [0,1,2,3,4,5] [(Ak w),(AL c z),(AP z),(AO y8 z),(Ti p b6),(TB p n232)] rfl rfl ?_
    refine CV ?_
    refine BR [1,2,4,5,6] [(1,Ac p),(2,pt z),(Au z),(Aw z),(Cb b6)] ?_
    refine Cc [0,1,2,3,4] [(Ak w),(AL c z),(AP z),(AO y8 z),(Ti p b6)] rfl rfl ?_
    have eB:(AV (Hq c p))=(AV [(Ae false 412 ⟨(p:Int), -1⟩),(Ae false 413 ⟨(p:Int), -1⟩)]):=by have e0:ES c p=y8:=hy8.symm;unfold Hq;simp only[e0];first | simp[h200,show ¬ y8.AB.xs.length≤8 by omega] | simp[h200,show y8.AB.xs.length≤8 by omega]
    refine BR [1,2,4,5,6] [(1,Ac p),(2,pt z),(Au z),(Aw z),(Cb b6)] ?_
    refine Cj (fun a w' hs=>⟨n235,by omega,(by(try dsimp only[TB,Ti,AP,Ha,AO,AL,Au,Aw,Cb,Hg]at hs ⊢);rw[eB];exact hs)⟩)
   refine DN 19 [0,1,2,3,4] (Hg c p y8 b6 z w) rfl rfl ?_
   refine Jj [.tk 0 o0,.tk 1 (a1 3),.tk 7 o0,.tk 10 o0,.tk 11 (a1 3),.tk 12 o0,.tk 13 oT,.tk 14 o0,.cl 2 (.bool (win y8.Entry 0 4095)),.tk 3 (ov (.bool false)),.tk 4 o0,.tk 5 o0,.tk 6 o0,.cl 8 (.agg #[(Ac p),i6 (-1)]),.cl 9 (.agg (Ai.arr (Ae false 412 ⟨(p:Int), -1⟩))),.cl 15 (.agg #[(Ac p),i6 (-1)]),.cl 16 (.agg (Ai.arr (Ae true 413 ⟨(p:Int), -1⟩)))] [1,2,4,5,6,80,87] [(63,#[i6 y8.Entry,i6 0,i6 4095],.bool (win y8.Entry 0 4095)),(93,#[(Ac p)],.agg #[(Ac p),i6 (-1)]),(62,#[.bool false,i6 412,.agg #[(Ac p),i6 (-1)]],.agg (Ai.arr (Ae false 412 ⟨(p:Int), -1⟩))),(93,#[(Ac p)],.agg #[(Ac p),i6 (-1)]),(62,#[.bool true,i6 413,.agg #[(Ac p),i6 (-1)]],.agg (Ai.arr (Ae true 413 ⟨(p:Int), -1⟩)))] (Dj 17 3) [Qb (z+2),Qb (z+2),BT ((y8.AB.xs.length:Int)≤8),Value.bool (win y8.Entry 0 4095)=Value.bool false] [(1,Ac p),(2,pt z),(Au z),(Aw z),(Cb b6),(80,.agg (Ai.arr (Ae false 412 ⟨(p:Int), -1⟩))),(87,.agg (Ai.arr (Ae true 413 ⟨(p:Int), -1⟩)))] [0,1,2,3,4] ⟨rfl,rfl,bt,(congrArg Value.bool (Bool.eq_false_iff.2 h200)),Ag⟩ ⟨fun w237 hw237=>Bl w237 y8.Entry 0 4095,fun w238 hw238=>Cm w238 (p:Int),fun w239 hw239=>AQ w239 (hL.ext (hw239.ext rfl)) false 412 (p:Int) (-1),fun w240 hw240=>Cm w240 (p:Int),fun w241 hw241=>AQ w241 (hL.ext (hw241.ext rfl)) true 413 (p:Int) (-1),Ag⟩ (fun n242 hn243 => ?_)
   replace hn243:n188≤n242:=hn243
   refine Bo 17 ?_
   refine Bq o0 [1,2,4,5,6,88] [] [(1,Ac p),(2,pt z),(Au z),(Aw z),(Cb b6),(88,.slice (some ⟨n242,0,none⟩) 2 2)] ⟨w,n242+1,[(Ak w),(AL c z),(AP z),(AO y8 z),(Ha c p b6),(Ua p n242)]⟩ [0,1,2,3,4] Ag (.inr rfl) ?_
   refine Bo 18 ?_
   refine EX 91 #[.slice (some ⟨n242,0,none⟩) 2 2] (some 89) (.agg (Ai.arr (AV [(Ae false 412 ⟨(p:Int), -1⟩),(Ae true 413 ⟨(p:Int), -1⟩)]))) [1,2,4,5,6,89] [(1,Ac p),(2,pt z),(Au z),(Aw z),(Cb b6),(89,.agg (Ai.arr (AV [(Ae false 412 ⟨(p:Int), -1⟩),(Ae true 413 ⟨(p:Int), -1⟩)])))] [0,1,2,3,4] (fun w244 hw244=>CE w244 (hL.ext (hw244.ext rfl)) ⟨some ⟨n242,0,none⟩,2,[(Ae false 412 ⟨(p:Int), -1⟩),(Ae true 413 ⟨(p:Int), -1⟩)]⟩ (Dy hw244 (i:=5) [(Ae false 412 ⟨(p:Int), -1⟩),(Ae true 413 ⟨(p:Int), -1⟩)]) (show 2≤1000 by decide)) (fun n245 hn246 => ?_)
   replace hn246:n242+1≤n245:=hn246
   refine Bo 19 ?_
   refine Bq (an 3 4) [1,2,4,5,6] [Qb b6,Qb b6,Qb b6] [(1,Ac p),(2,pt z),(Au z),(Aw z),(Cb b6)] ⟨w,n245,[(Ak w),(AL c z),(AP z),(AO y8 z),(Td p b6),(Ua p n242)]⟩ [] ⟨rfl,rfl,rfl,Ag⟩ (.inl rfl) ?_
   refine D8 20 [0,1,2,3,4,5] [(Ak w),(AL c z),(AP z),(AO y8 z),(Td p b6),(Ua p n242)] rfl rfl ?_
   refine CV ?_
   refine BR [1,2,4,5,6] [(1,Ac p),(2,pt z),(Au z),(Aw z),(Cb b6)] ?_
   refine Cc [0,1,2,3,4] [(Ak w),(AL c z),(AP z),(AO y8 z),(Td p b6)] rfl rfl ?_
   have eB:(AV (Hq c p))=(AV [(Ae false 412 ⟨(p:Int), -1⟩),(Ae true 413 ⟨(p:Int), -1⟩)]):=by have e0:ES c p=y8:=hy8.symm;unfold Hq;simp only[e0];first | simp[h200,show ¬ y8.AB.xs.length≤8 by omega] | simp[h200,show y8.AB.xs.length≤8 by omega]
   refine BR [1,2,4,5,6] [(1,Ac p),(2,pt z),(Au z),(Aw z),(Cb b6)] ?_
   refine Cj (fun a w' hs=>⟨n245,by omega,(by(try dsimp only[Ua,Td,AP,Ha,AO,AL,Au,Aw,Cb,Hg]at hs ⊢);rw[eB];exact hs)⟩)
  rintro a w' ⟨n198,hn199,hs⟩
  refine(?_:G Tryd.prog 118 [(1,Ac p),(2,pt z),(Au z),(Aw z),(Cb b6)] [] ⟨w,n198,[(Ak w),(AL c z),(AP z),(AO y8 z),(.blk b6 (.cells (Ai.arr (AV (Hq c p))) 111 (0,0)) true)]⟩ _ _ _) a w' hs
  clear hs a w'
  refine RD (fun a w'=>∃ (n247:Nat),n198≤n247∧St 118 [(Au z),(Cb b6)] [] ⟨w,n247,[(Ak w),(AL c z),(AP z),(AO y8 z),(bk b6 (Ai.arr (DK c p)) 111)]⟩ a w') ?_ ?_
  ·refine A7 5 0 [] [[o0]] [] [(1,Ac p),(2,pt z),(Au z),(Aw z),(Cb b6),(8,i6 0)] rfl Ag ?_
   refine DW (fun m a w'=>∃ (n250:Nat) (k:Nat),m=y8.AB.xs.length - k∧n198≤n250∧(k≤y8.AB.xs.length)∧St 118 [(1,Ac p),(2,pt z),(Au z),(Aw z),(Cb b6),(8,Ac k)] [] ⟨w,n250,[(Ak w),(AL c z),(AP z),(AO y8 z),(OG c p b6 k)]⟩ a w') (y8.AB.xs.length - 0) ?_ ?_
   ·intro a w' hs;exact⟨n198,0,rfl,Nat.le_refl _,Nat.zero_le _,(by(try dsimp only[OG,AP,Ha,AO,AL,Au,Aw,Cb,Hg]at hs ⊢);rw[Oo];exact hs)⟩
   rintro m a w' ⟨n250,k,rfl,hn249,hkk,hs⟩
   refine(?_:G Tryd.prog 118 [(1,Ac p),(2,pt z),(Au z),(Aw z),(Cb b6),(8,Ac k)] [] ⟨w,n250,[(Ak w),(AL c z),(AP z),(AO y8 z),(OG c p b6 k)]⟩ _ _ _) a w' hs
   clear hs a w'
   refine DC <| DC ?_
   by_cases h251:(k:Int)<(y8.AB.xs.length:Int)
   ·by_cases h252:(((Em (AV (Hq c p)) (JU c p) k).e:Int)==(0:Int)&&((((Em (AV (Hq c p)) (JU c p) k).Af.First:Int)==(0:Int)&&(((Em (AV (Hq c p)) (JU c p) k).Af.Second:Int)==(0:Int)&&true))&&true))=true
    ·refine A7 8 0 [1] [[o0,o0,(a1 3),o0,oT,o0,(an 3 4),(oa [.via 0 (i6 0),.via 0 (i6 0),.via 0 (i6 0)]),⟨.seq true,none⟩,o0]] [Qb (z+2),BT ((k:Int)<(y8.AB.xs.length:Int)),Qb b6,Qb b6,Qb b6,Old w 0 0 (i6 0),Old w 0 1 (i6 0),Old w 0 2 (i6 0),(((Em (AV (Hq c p)) (JU c p) k).e:Int)==(0:Int)&&((((Em (AV (Hq c p)) (JU c p) k).Af.First:Int)==(0:Int)&&(((Em (AV (Hq c p)) (JU c p) k).Af.Second:Int)==(0:Int)&&true))&&true))=true] [(1,Ac p),(2,pt z),(Au z),(Aw z),(Cb b6),(8,Ac k),(99,.bool true)] rfl ⟨rfl,bt,rfl,rfl,rfl,Aq (hL.2 0 _ rfl),Aq (hL.2 1 _ rfl),Aq (hL.2 2 _ rfl),h252,Ag⟩ ?_
     obtain⟨b253,o254,ha255,hF257,hc256⟩:=(he7.AB).1.all (show 0<y8.AB.xs.length by omega)
     replace ha255:y8.AB.a=some ⟨b253,o254,none⟩:=ha255
     have hc258:=hc256 k (show k<y8.AB.xs.length by omega)
     have he259:=(he7.AB).2 k (show k<y8.AB.xs.length by omega)
     obtain⟨y260,hy260⟩:∃ y_,y_=gd y8.AB.xs k:=⟨_,rfl⟩
     rw[←hy260]at he259 hc258
     refine DN 15 [0,1,2,3,4] [(Ak w),(AL c z),(AP z),(AO y8 z),(OG c p b6 k)] rfl rfl ?_
     refine Jj [.tk 0 o0,.tk 1 (Jk 3 b253 o254 y8.AB),.tk 2 o0,.tk 3 (oi k),.tk 4 o0,.tk 5 (oa [.via 0 (i6 y260.Channel)]),.tk 6 o0,.tk 7 (a1 1),.tk 8 o0,.tk 9 (ov (i6 ((c.Am.xs.length:Int) - 1))),.tk 11 o0,.tk 12 o0,.cl 10 (.bool (win y260.Channel 0 ((c.Am.xs.length:Int) - 1))),.cl 13 (.agg #[(Ac p),Ac k]),.cl 14 (.agg (Ai.arr (Ae (win y260.Channel 0 ((c.Am.xs.length:Int) - 1)) 414 ⟨(p:Int),(k:Int)⟩)))] [1,2,4,5,6,8,116] [(63,#[i6 y260.Channel,i6 0,i6 ((c.Am.xs.length:Int) - 1)],.bool (win y260.Channel 0 ((c.Am.xs.length:Int) - 1))),(96,#[(Ac p),Ac k],.agg #[(Ac p),Ac k]),(62,#[.bool (win y260.Channel 0 ((c.Am.xs.length:Int) - 1)),i6 414,.agg #[(Ac p),Ac k]],.agg (Ai.arr (Ae (win y260.Channel 0 ((c.Am.xs.length:Int) - 1)) 414 ⟨(p:Int),(k:Int)⟩)))] (Dj 15 1) [Qb (z+2),IQ b253 o254 y8.AB,Ed k,k<y8.AB.xs.length,Dt,Old w b253 (o254+k*2) (i6 y260.Channel),Qb z,Wr ((c.Am.xs.length:Int) - 1) ((c.Am.xs.length:Int) - 1)] [(1,Ac p),(2,pt z),(Au z),(Aw z),(Cb b6),(8,Ac k),(116,.agg (Ai.arr (Ae (win y260.Channel 0 ((c.Am.xs.length:Int) - 1)) 414 ⟨(p:Int),(k:Int)⟩)))] [0,1,2,3,4] ⟨rfl,IP ha255,rfl,(by omega),rfl,Aq (hc258 0 _ rfl),rfl,CU,Ag⟩ ⟨fun w261 hw261=>Bl w261 y260.Channel 0 ((c.Am.xs.length:Int) - 1),fun w262 hw262=>EH w262 (p:Int) (k:Int),fun w263 hw263=>AQ w263 (hL.ext (hw263.ext rfl)) (win y260.Channel 0 ((c.Am.xs.length:Int) - 1)) 414 (p:Int) (k:Int),Ag⟩ (fun n264 hn265 => ?_)
     replace hn265:n250≤n264:=hn265
     refine Bo 15 ?_
     refine Bq (an 3 4) [1,2,4,5,6,8] [Qb b6,Qb b6,Qb b6] [(1,Ac p),(2,pt z),(Au z),(Aw z),(Cb b6),(8,Ac k)] ⟨w,n264,(Tj c p y8 b6 k z w y260)⟩ [] ⟨rfl,rfl,rfl,Ag⟩ (.inl rfl) ?_
     refine D8 16 [0,1,2,3,4] (Tj c p y8 b6 k z w y260) rfl rfl ?_
     refine CV ?_
     refine Ns 4 0 [] [[o0,(ov (i6 ((k+1:Nat):Int))),o0]] [Wr ((k:Int)+1) (((k+1:Nat):Int))] [(1,Ac p),(2,pt z),(Au z),(Aw z),(Cb b6),(8,i6 ((k+1:Nat):Int))] rfl ⟨CU,Ag⟩ ?_
     have eS:=Ob (EI.1 h252)
     have eP:JU c p k=(Ae (win y260.Channel 0 ((c.Am.xs.length:Int) - 1)) 414 ⟨(p:Int),(k:Int)⟩):=by have e0:WJ c p k=y260:=(by dsimp only[WJ];rw[←hy8,←hy260]);unfold JU;rw[e0]
     refine BR [1,2,4,5,6,8] [(1,Ac p),(2,pt z),(Au z),(Aw z),(Cb b6),(8,i6 ((k+1:Nat):Int))] ?_
     refine Cj (fun a w' hs=>⟨y8.AB.xs.length - (k+1),by omega,n264,(k+1),rfl,by omega,by omega,(by(try dsimp only[OG,AP,Ha,AO,AL,Au,Aw,Cb,Tj,Hg]at hs ⊢);rw[eS,eP];exact hs)⟩)
    refine A7 8 0 [0] [[o0,o0,(a1 3),o0,oT,o0,(an 3 4),(oa [.via 0 (i6 0),.via 0 (i6 0),.via 0 (i6 0)]),⟨.seq false,none⟩,o0]] [Qb (z+2),BT ((k:Int)<(y8.AB.xs.length:Int)),Qb b6,Qb b6,Qb b6,Old w 0 0 (i6 0),Old w 0 1 (i6 0),Old w 0 2 (i6 0),(((Em (AV (Hq c p)) (JU c p) k).e:Int)==(0:Int)&&((((Em (AV (Hq c p)) (JU c p) k).Af.First:Int)==(0:Int)&&(((Em (AV (Hq c p)) (JU c p) k).Af.Second:Int)==(0:Int)&&true))&&true))=false] [(1,Ac p),(2,pt z),(Au z),(Aw z),(Cb b6),(8,Ac k),(99,.bool false)] rfl ⟨rfl,bt,rfl,rfl,rfl,Aq (hL.2 0 _ rfl),Aq (hL.2 1 _ rfl),Aq (hL.2 2 _ rfl),(Bool.eq_false_iff.2 h252),Ag⟩ ?_
    have eB:(DK c p)=(Em (AV (Hq c p)) (JU c p) k):=(if_pos hB0).trans (KN (fun e=>h252 (EI.2 e)) (by dsimp only[ES];rw[←hy8];omega))
    refine BR [4,6] [(Au z),(Cb b6)] ?_
    refine Cj (fun a w' hs=>⟨n250,by omega,(by(try dsimp only[OG,AP,Ha,AO,AL,Au,Aw,Cb,Tj,Hg]at hs ⊢);rw[eB];exact hs)⟩)
   refine A7 8 0 [0] [[o0,o0,(a1 3),o0,oF,o0,o0]] [Qb (z+2),BF ((k:Int)<(y8.AB.xs.length:Int))] [(1,Ac p),(2,pt z),(Au z),(Aw z),(Cb b6),(8,Ac k),(99,.bool false)] rfl ⟨rfl,bf,Ag⟩ ?_
   have eB:(DK c p)=(Em (AV (Hq c p)) (JU c p) k):=(if_pos hB0).trans (congrArg (Em _ _) (by dsimp only[ES];rw[←hy8];omega))
   refine BR [4,6] [(Au z),(Cb b6)] ?_
   refine Cj (fun a w' hs=>⟨n250,by omega,(by(try dsimp only[OG,AP,Ha,AO,AL,Au,Aw,Cb,Hg]at hs ⊢);rw[eB];exact hs)⟩)
  rintro a w' ⟨n247,hn248,hs⟩
  refine(?_:G Tryd.prog 118 [(Au z),(Cb b6)] [] ⟨w,n247,[(Ak w),(AL c z),(AP z),(AO y8 z),(bk b6 (Ai.arr (DK c p)) 111)]⟩ _ _ _) a w' hs
  clear hs a w'
  refine q_c 5 0 [] [[(an 3 4),(an 3 2)]] [Qb b6,Qb b6,Qb b6,Qb (z+1),Qb (z+1),Qb (z+1)] [(Au z)] ⟨w,n247,[(Ak w),(AL c z),(bk (z+1) (Ai.arr (DK c p)) 111),(AO y8 z),(bk b6 (Ai.arr (DK c p)) 111)]⟩ rfl ⟨rfl,rfl,rfl,rfl,rfl,rfl,Ag⟩ ?_
  refine AX [.at 2,.at 2,.at 2] [Qb (z+1),Qb (z+1),Qb (z+1)] (.agg #[i6 ((DK c p).e),i6 ((DK c p).Af.First),i6 ((DK c p).Af.Second)]) ⟨rfl,rfl,rfl,Ag⟩ ?_
  intro w266 hw266
  exact⟨rfl,BC hw266⟩
 refine q_c 9 0 [1] [[(an 3 4),(oa [.via 0 (i6 0),.via 0 (i6 0),.via 0 (i6 0)]),⟨.seq false,none⟩],[(an 3 4),(an 3 2)]] [Qb b6,Qb b6,Qb b6,Old w 0 0 (i6 0),Old w 0 1 (i6 0),Old w 0 2 (i6 0),(((Ik c p).e:Int)==(0:Int)&&((((Ik c p).Af.First:Int)==(0:Int)&&(((Ik c p).Af.Second:Int)==(0:Int)&&true))&&true))=false,Qb b6,Qb b6,Qb b6,Qb (z+1),Qb (z+1),Qb (z+1)] [(Au z)] ⟨w,n188,[(Ak w),(AL c z),(bk (z+1) (Ai.arr (Ik c p)) 111),(AO y8 z),(Ha c p b6)]⟩ rfl ⟨rfl,rfl,rfl,Aq (hL.2 0 _ rfl),Aq (hL.2 1 _ rfl),Aq (hL.2 2 _ rfl),(Bool.eq_false_iff.2 h197),rfl,rfl,rfl,rfl,rfl,rfl,Ag⟩ ?_
 refine AX [.at 2,.at 2,.at 2] [Qb (z+1),Qb (z+1),Qb (z+1)] (.agg #[i6 ((Ik c p).e),i6 ((Ik c p).Af.First),i6 ((Ik c p).Af.Second)]) ⟨rfl,rfl,rfl,Ag⟩ ?_
 intro w267 hw267
 exact⟨by rw[show DK c p=Ik c p from if_neg (fun e=>h197 (EI.2 e))],BC hw267⟩
abbrev MB(c:Aj)(h:Nat):BH:=gd c.Am.xs h
def DR(x:BH):Bool:=if x.Kind=2 then win x.Dq 1 8 else decide (x.Dq=0)
def Ap(x:BH):Int:=if x.Kind=2 then 1 else 4
def DD(c:Aj)(h:Nat):Ai:=AV [Ae (win (MB c h).Kind 1 2&&win (MB c h).Words 1 16&&DR (MB c h)) 415 ⟨(h:Int), -1⟩,Ae (decide ((Jp c h:Nat)=(1:Int))) 416 ⟨(h:Int), -1⟩,Ae (win (Be c h:Nat) 1 (Ap (MB c h))) 417 ⟨(h:Int), -1⟩]
section
variable (n224:Nat)(y8:BH)(h:Nat)(c:Aj)(n68 n205:Nat)(n49 n114:Nat)(n160 n270:Nat)(n316 n141:Nat)(n251 n297:Nat)(n95 z:Nat)
abbrev Zw:=bk n224 #[i6 ((Ae (DR y8) 415 ⟨(h:Int), -1⟩).e),i6 ((Ae (DR y8) 415 ⟨(h:Int), -1⟩).Af.First),i6 ((Ae (DR y8) 415 ⟨(h:Int), -1⟩).Af.Second),i6 ((Ae false 416 ⟨(h:Int), -1⟩).e),i6 ((Ae false 416 ⟨(h:Int), -1⟩).Af.First),i6 ((Ae false 416 ⟨(h:Int), -1⟩).Af.Second),i6 ((Ae (win ((Be c (h:Int):Nat):Int) 1 (Ap y8)) 417 ⟨(h:Int), -1⟩).e),i6 ((Ae (win ((Be c (h:Int):Nat):Int) 1 (Ap y8)) 417 ⟨(h:Int), -1⟩).Af.First),i6 ((Ae (win ((Be c (h:Int):Nat):Int) 1 (Ap y8)) 417 ⟨(h:Int), -1⟩).Af.Second)] 111
abbrev YJ:=bk n68 #[i6 ((Ae (DR y8) 415 ⟨(h:Int), -1⟩).e),i6 ((Ae (DR y8) 415 ⟨(h:Int), -1⟩).Af.First),i6 ((Ae (DR y8) 415 ⟨(h:Int), -1⟩).Af.Second),i6 ((Ae false 416 ⟨(h:Int), -1⟩).e),i6 ((Ae false 416 ⟨(h:Int), -1⟩).Af.First),i6 ((Ae false 416 ⟨(h:Int), -1⟩).Af.Second),i6 ((Ae (win ((Be c (h:Int):Nat):Int) 1 (Ap y8)) 417 ⟨(h:Int), -1⟩).e),i6 ((Ae (win ((Be c (h:Int):Nat):Int) 1 (Ap y8)) 417 ⟨(h:Int), -1⟩).Af.First),i6 ((Ae (win ((Be c (h:Int):Nat):Int) 1 (Ap y8)) 417 ⟨(h:Int), -1⟩).Af.Second)] 111
abbrev Zj:=bk n205 #[i6 ((Ae (DR y8) 415 ⟨(h:Int), -1⟩).e),i6 ((Ae (DR y8) 415 ⟨(h:Int), -1⟩).Af.First),i6 ((Ae (DR y8) 415 ⟨(h:Int), -1⟩).Af.Second),i6 ((Ae true 416 ⟨(h:Int), -1⟩).e),i6 ((Ae true 416 ⟨(h:Int), -1⟩).Af.First),i6 ((Ae true 416 ⟨(h:Int), -1⟩).Af.Second),i6 ((Ae (win ((Be c (h:Int):Nat):Int) 1 (Ap y8)) 417 ⟨(h:Int), -1⟩).e),i6 ((Ae (win ((Be c (h:Int):Nat):Int) 1 (Ap y8)) 417 ⟨(h:Int), -1⟩).Af.First),i6 ((Ae (win ((Be c (h:Int):Nat):Int) 1 (Ap y8)) 417 ⟨(h:Int), -1⟩).Af.Second)] 111
abbrev YC:=bk n49 #[i6 ((Ae (DR y8) 415 ⟨(h:Int), -1⟩).e),i6 ((Ae (DR y8) 415 ⟨(h:Int), -1⟩).Af.First),i6 ((Ae (DR y8) 415 ⟨(h:Int), -1⟩).Af.Second),i6 ((Ae true 416 ⟨(h:Int), -1⟩).e),i6 ((Ae true 416 ⟨(h:Int), -1⟩).Af.First),i6 ((Ae true 416 ⟨(h:Int), -1⟩).Af.Second),i6 ((Ae (win ((Be c (h:Int):Nat):Int) 1 (Ap y8)) 417 ⟨(h:Int), -1⟩).e),i6 ((Ae (win ((Be c (h:Int):Nat):Int) 1 (Ap y8)) 417 ⟨(h:Int), -1⟩).Af.First),i6 ((Ae (win ((Be c (h:Int):Nat):Int) 1 (Ap y8)) 417 ⟨(h:Int), -1⟩).Af.Second)] 111
abbrev YO:=bk n114 #[i6 ((Ae false 415 ⟨(h:Int), -1⟩).e),i6 ((Ae false 415 ⟨(h:Int), -1⟩).Af.First),i6 ((Ae false 415 ⟨(h:Int), -1⟩).Af.Second),i6 ((Ae false 416 ⟨(h:Int), -1⟩).e),i6 ((Ae false 416 ⟨(h:Int), -1⟩).Af.First),i6 ((Ae false 416 ⟨(h:Int), -1⟩).Af.Second),i6 ((Ae (win ((Be c (h:Int):Nat):Int) 1 (Ap y8)) 417 ⟨(h:Int), -1⟩).e),i6 ((Ae (win ((Be c (h:Int):Nat):Int) 1 (Ap y8)) 417 ⟨(h:Int), -1⟩).Af.First),i6 ((Ae (win ((Be c (h:Int):Nat):Int) 1 (Ap y8)) 417 ⟨(h:Int), -1⟩).Af.Second)] 111
abbrev Zf:=bk n160 #[i6 ((Ae false 415 ⟨(h:Int), -1⟩).e),i6 ((Ae false 415 ⟨(h:Int), -1⟩).Af.First),i6 ((Ae false 415 ⟨(h:Int), -1⟩).Af.Second),i6 ((Ae false 416 ⟨(h:Int), -1⟩).e),i6 ((Ae false 416 ⟨(h:Int), -1⟩).Af.First),i6 ((Ae false 416 ⟨(h:Int), -1⟩).Af.Second),i6 ((Ae (win ((Be c (h:Int):Nat):Int) 1 (Ap y8)) 417 ⟨(h:Int), -1⟩).e),i6 ((Ae (win ((Be c (h:Int):Nat):Int) 1 (Ap y8)) 417 ⟨(h:Int), -1⟩).Af.First),i6 ((Ae (win ((Be c (h:Int):Nat):Int) 1 (Ap y8)) 417 ⟨(h:Int), -1⟩).Af.Second)] 111
abbrev Zg:=bk n270 #[i6 ((Ae false 415 ⟨(h:Int), -1⟩).e),i6 ((Ae false 415 ⟨(h:Int), -1⟩).Af.First),i6 ((Ae false 415 ⟨(h:Int), -1⟩).Af.Second),i6 ((Ae false 416 ⟨(h:Int), -1⟩).e),i6 ((Ae false 416 ⟨(h:Int), -1⟩).Af.First),i6 ((Ae false 416 ⟨(h:Int), -1⟩).Af.Second),i6 ((Ae (win ((Be c (h:Int):Nat):Int) 1 (Ap y8)) 417 ⟨(h:Int), -1⟩).e),i6 ((Ae (win ((Be c (h:Int):Nat):Int) 1 (Ap y8)) 417 ⟨(h:Int), -1⟩).Af.First),i6 ((Ae (win ((Be c (h:Int):Nat):Int) 1 (Ap y8)) 417 ⟨(h:Int), -1⟩).Af.Second)] 111
abbrev Zr:=bk n316 #[i6 ((Ae false 415 ⟨(h:Int), -1⟩).e),i6 ((Ae false 415 ⟨(h:Int), -1⟩).Af.First),i6 ((Ae false 415 ⟨(h:Int), -1⟩).Af.Second),i6 ((Ae false 416 ⟨(h:Int), -1⟩).e),i6 ((Ae false 416 ⟨(h:Int), -1⟩).Af.First),i6 ((Ae false 416 ⟨(h:Int), -1⟩).Af.Second),i6 ((Ae (win ((Be c (h:Int):Nat):Int) 1 (Ap y8)) 417 ⟨(h:Int), -1⟩).e),i6 ((Ae (win ((Be c (h:Int):Nat):Int) 1 (Ap y8)) 417 ⟨(h:Int), -1⟩).Af.First),i6 ((Ae (win ((Be c (h:Int):Nat):Int) 1 (Ap y8)) 417 ⟨(h:Int), -1⟩).Af.Second)] 111
abbrev YX:=bk n141 #[i6 ((Ae false 415 ⟨(h:Int), -1⟩).e),i6 ((Ae false 415 ⟨(h:Int), -1⟩).Af.First),i6 ((Ae false 415 ⟨(h:Int), -1⟩).Af.Second),i6 ((Ae true 416 ⟨(h:Int), -1⟩).e),i6 ((Ae true 416 ⟨(h:Int), -1⟩).Af.First),i6 ((Ae true 416 ⟨(h:Int), -1⟩).Af.Second),i6 ((Ae (win ((Be c (h:Int):Nat):Int) 1 (Ap y8)) 417 ⟨(h:Int), -1⟩).e),i6 ((Ae (win ((Be c (h:Int):Nat):Int) 1 (Ap y8)) 417 ⟨(h:Int), -1⟩).Af.First),i6 ((Ae (win ((Be c (h:Int):Nat):Int) 1 (Ap y8)) 417 ⟨(h:Int), -1⟩).Af.Second)] 111
abbrev YQ:=bk n251 #[i6 ((Ae false 415 ⟨(h:Int), -1⟩).e),i6 ((Ae false 415 ⟨(h:Int), -1⟩).Af.First),i6 ((Ae false 415 ⟨(h:Int), -1⟩).Af.Second),i6 ((Ae true 416 ⟨(h:Int), -1⟩).e),i6 ((Ae true 416 ⟨(h:Int), -1⟩).Af.First),i6 ((Ae true 416 ⟨(h:Int), -1⟩).Af.Second),i6 ((Ae (win ((Be c (h:Int):Nat):Int) 1 (Ap y8)) 417 ⟨(h:Int), -1⟩).e),i6 ((Ae (win ((Be c (h:Int):Nat):Int) 1 (Ap y8)) 417 ⟨(h:Int), -1⟩).Af.First),i6 ((Ae (win ((Be c (h:Int):Nat):Int) 1 (Ap y8)) 417 ⟨(h:Int), -1⟩).Af.Second)] 111
abbrev XA:=bk n297 #[i6 ((Ae false 415 ⟨(h:Int), -1⟩).e),i6 ((Ae false 415 ⟨(h:Int), -1⟩).Af.First),i6 ((Ae false 415 ⟨(h:Int), -1⟩).Af.Second),i6 ((Ae true 416 ⟨(h:Int), -1⟩).e),i6 ((Ae true 416 ⟨(h:Int), -1⟩).Af.First),i6 ((Ae true 416 ⟨(h:Int), -1⟩).Af.Second),i6 ((Ae (win ((Be c (h:Int):Nat):Int) 1 (Ap y8)) 417 ⟨(h:Int), -1⟩).e),i6 ((Ae (win ((Be c (h:Int):Nat):Int) 1 (Ap y8)) 417 ⟨(h:Int), -1⟩).Af.First),i6 ((Ae (win ((Be c (h:Int):Nat):Int) 1 (Ap y8)) 417 ⟨(h:Int), -1⟩).Af.Second)] 111
abbrev XV:=bk n95 #[i6 ((Ae false 415 ⟨(h:Int), -1⟩).e),i6 ((Ae false 415 ⟨(h:Int), -1⟩).Af.First),i6 ((Ae false 415 ⟨(h:Int), -1⟩).Af.Second),i6 ((Ae true 416 ⟨(h:Int), -1⟩).e),i6 ((Ae true 416 ⟨(h:Int), -1⟩).Af.First),i6 ((Ae true 416 ⟨(h:Int), -1⟩).Af.Second),i6 ((Ae (win ((Be c (h:Int):Nat):Int) 1 (Ap y8)) 417 ⟨(h:Int), -1⟩).e),i6 ((Ae (win ((Be c (h:Int):Nat):Int) 1 (Ap y8)) 417 ⟨(h:Int), -1⟩).Af.First),i6 ((Ae (win ((Be c (h:Int):Nat):Int) 1 (Ap y8)) 417 ⟨(h:Int), -1⟩).Af.Second)] 111
abbrev XF:Ch:= .blk (z+1) (.cells (Ai.arr (AV [(Ae (DR y8) 415 ⟨(h:Int), -1⟩),(Ae false 416 ⟨(h:Int), -1⟩),(Ae (win ((Be c (h:Int):Nat):Int) 1 (Ap y8)) 417 ⟨(h:Int), -1⟩)])) 111 (0,0)) true
abbrev XH:Ch:= .blk (z+1) (.cells (Ai.arr (AV [(Ae (DR y8) 415 ⟨(h:Int), -1⟩),(Ae true 416 ⟨(h:Int), -1⟩),(Ae (win ((Be c (h:Int):Nat):Int) 1 (Ap y8)) 417 ⟨(h:Int), -1⟩)])) 111 (0,0)) true
abbrev Tu:Ch:= .blk (z+1) (.cells (Ai.arr (AV [(Ae false 415 ⟨(h:Int), -1⟩),(Ae false 416 ⟨(h:Int), -1⟩),(Ae (win ((Be c (h:Int):Nat):Int) 1 (Ap y8)) 417 ⟨(h:Int), -1⟩)])) 111 (0,0)) true
abbrev TQ:Ch:= .blk (z+1) (.cells (Ai.arr (AV [(Ae false 415 ⟨(h:Int), -1⟩),(Ae true 416 ⟨(h:Int), -1⟩),(Ae (win ((Be c (h:Int):Nat):Int) 1 (Ap y8)) 417 ⟨(h:Int), -1⟩)])) 111 (0,0)) true
abbrev Gi:=bk (z+1) #[i6 0,i6 0,i6 0] 111
abbrev Eu:=bk (z+2) (BH.arr y8) 115
abbrev En:=bk z (Aj.arr c) 26
abbrev FP:CO:=(51,.bool (win ((Be c (h:Int):Nat):Int) 1 (Ap y8)))
abbrev Gg:CO:=(43,.agg (Ai.arr (Ae (DR y8) 415 ⟨(h:Int), -1⟩)))
abbrev Hf:CO:=(48,.agg (Ai.arr (Ae false 416 ⟨(h:Int), -1⟩)))
abbrev D6:CO:=(43,.agg (Ai.arr (Ae false 415 ⟨(h:Int), -1⟩)))
abbrev He:CO:=(48,.agg (Ai.arr (Ae true 416 ⟨(h:Int), -1⟩)))
abbrev PP:CO:=(42,.agg #[(Ac h),i6 (-1)])
abbrev JE:CO:=(47,.agg #[(Ac h),i6 (-1)])
abbrev JI:CO:=(53,.agg #[(Ac h),i6 (-1)])
abbrev JH:=(49,i6 ((Be c (h:Int):Nat):Int))
abbrev Fp:=(8,i6 ((Jp c (h:Int):Nat):Int))
abbrev Dh:=(9,i6 ((Be c (h:Int):Nat):Int))
abbrev AC:=(4,pt (z+1))
abbrev Ff:=(5,pt (z+2))
end
theorem Wx(w:World)(hL:Gz w)(c:Aj)(hc:Aj.ok Any w c)(h:Nat)(hh:h<c.Am.xs.length)(hm:c.Aa.xs.length≤1024)(hq:∀ p,p<c.Aa.xs.length→(gd c.Aa.xs p).AB.xs.length≤1024):Calls Tryd.prog 71 #[.agg (Aj.arr c),.int .i64 (h:Int)] w fun e w'=>e = .returned (.agg (Ai.arr (DD c h)))∧CJ (fun _=>False) w w':=by
 obtain⟨z,hz⟩:∃ z,z=w.heap.size:=⟨_,rfl⟩
 refine BP (args:=[.agg (Aj.arr c),Ac h]) 57 ⟨w,z,[(Ak w)]⟩ Tryd.func71 rfl (by kernel_rfl) (by kernel_rfl) (EQ hz) ?_
 have hpl:=hc.Am.1.len
 refine DZ [0,1] [(0,.agg (Aj.arr c)),(1,Ac h)] ?_
 refine q_c 5 0 [] [[o0,o0]] [] [(1,Ac h),(2,pt z),(AC z)] ⟨w,z+2,[(Ak w),(En c z),(Gi z)]⟩ rfl Ag ?_
 obtain⟨b1,o2,ha3,hF5,hc4⟩:=(hc.Am).1.all (show 0<c.Am.xs.length by omega)
 replace ha3:c.Am.a=some ⟨b1,o2,none⟩:=ha3
 have hc6:=hc4 h (show h<c.Am.xs.length by omega)
 have he7:=(hc.Am).2 h (show h<c.Am.xs.length by omega)
 obtain⟨y8,hy8⟩:∃ y_,y_=gd c.Am.xs h:=⟨_,rfl⟩
 rw[←hy8]at he7 hc6
 refine q_c 4 0 [] [[o0,(Jk 1 b1 o2 c.Am),o0,(oi h),(ol 0 (BH.arr y8)),o0,(an 3 3)]] [Qb z,IQ b1 o2 c.Am,Ed h,h<c.Am.xs.length,Dt,Ie w b1 (o2+h*3) (BH.arr y8),Qb (z+2),Qb (z+2),Qb (z+2)] [(1,Ac h),(2,pt z),(AC z),(Ff z)] ⟨w,z+3,[(Ak w),(En c z),(Gi z),(Eu y8 z)]⟩ rfl ⟨rfl,IP ha3,rfl,(by omega),rfl,EL hc6,rfl,rfl,rfl,Ag⟩ ?_
 by_cases h9:(y8.Dq:Int)=0
 ·refine A7 3 0 [] [[o0,(a1 3),oT,o0,o0]] [Qb (z+2),ET y8.Dq 0] [(1,Ac h),(2,pt z),(AC z),(Ff z),(6,.bool true),(7,i6 4)] rfl ⟨rfl,et,Ag⟩ ?_
  refine RD (fun a w'=>∃ (n10:Nat),z+3≤n10∧St 57 [(1,Ac h),(2,pt z),(AC z),(Ff z),(6,.bool (DR y8)),(7,i6 (Ap y8))] [] ⟨w,n10,[(Ak w),(En c z),(Gi z),(Eu y8 z)]⟩ a w') ?_ ?_
  ·refine DC ?_
   by_cases h12:(y8.Kind:Int)=2
   ·refine A7 5 2 [1] [[o0,(a1 3),oT],[o0,(a1 3)]] [Qb (z+2),ET y8.Kind 2,Qb (z+2)] [(1,Ac h),(2,pt z),(AC z),(Ff z),(22,i6 y8.Dq)] rfl ⟨rfl,et,rfl,Ag⟩ ?_
    refine Bz 63 #[i6 y8.Dq,i6 1,i6 8] (some 23) (.bool (win y8.Dq 1 8)) (fun w13 hw13=>Bl w13 y8.Dq 1 8) (fun n14 (hn15:z+3≤n14) => ?_)
    refine BQ 1 0 [] [[o0,o0]] [] [(1,Ac h),(2,pt z),(AC z),(Ff z),(6,.bool (win y8.Dq 1 8)),(7,i6 1)] rfl Ag ?_
    have e6:DR y8=win y8.Dq 1 8:=(if_pos h12).trans (by first | rfl | exact decide_eq_true (by assumption) | exact decide_eq_false (by assumption))
    have e7:Ap y8=1:=if_pos h12
    refine BR [1,2,4,5,6,7] [(1,Ac h),(2,pt z),(AC z),(Ff z),(6,.bool (win y8.Dq 1 8)),(7,i6 1)] ?_
    refine Cj (fun a w' hs=>⟨n14,by omega,(by(try dsimp only[Gi,Eu,En,AC,Ff]at hs ⊢);rw[e6,e7];exact hs)⟩)
   refine A7 5 0 [0] [[o0,(a1 3),oF]] [Qb (z+2),EF y8.Kind 2] [(1,Ac h),(2,pt z),(AC z),(Ff z),(6,.bool true),(7,i6 4),(20,.bool false)] rfl ⟨rfl,ef,Ag⟩ ?_
   have e6:DR y8=true:=(if_neg h12).trans (by first | rfl | exact decide_eq_true (by assumption) | exact decide_eq_false (by assumption))
   have e7:Ap y8=4:=if_neg h12
   refine BR [1,2,4,5,6,7] [(1,Ac h),(2,pt z),(AC z),(Ff z),(6,.bool true),(7,i6 4)] ?_
   refine Cj (fun a w' hs=>⟨(z+3),by omega,(by(try dsimp only[Gi,Eu,En,AC,Ff]at hs ⊢);rw[e6,e7];exact hs)⟩)
  rintro a w' ⟨n10,hn11,hs⟩
  refine(?_:G Tryd.prog 57 [(1,Ac h),(2,pt z),(AC z),(Ff z),(6,.bool (DR y8)),(7,i6 (Ap y8))] [] ⟨w,n10,[(Ak w),(En c z),(Gi z),(Eu y8 z)]⟩ _ _ _) a w' hs
  clear hs a w'
  refine A7 2 2 [] [[(an 7 1),o0]] [Qb z,Qb z,Qb z,Qb z,Qb z,Qb z,Qb z] [(1,Ac h),(AC z),(Ff z),(6,.bool (DR y8)),(7,i6 (Ap y8)),(25,.agg (Aj.arr c)),(26,Ac h)] rfl ⟨rfl,rfl,rfl,rfl,rfl,rfl,rfl,Ag⟩ ?_
  refine Bz 97 #[.agg (Aj.arr c),Ac h] (some 27) (.tuple #[i6 ((Jp c (h:Int):Nat):Int),i6 ((Be c (h:Int):Nat):Int)]) (fun w16 hw16=>Oz w16 c (hc.ext (hw16.ext rfl) (fun _ h=>h)) (h:Int) hm hq) (fun n17 (hn18:n10≤n17) => ?_)
  refine BQ 4 2 [] [[o0,o0,o0,o0,o0],[o0,(a1 3)]] [Qb (z+2)] [(1,Ac h),(AC z),(Ff z),(6,.bool (DR y8)),(7,i6 (Ap y8)),(Fp h c),(Dh h c),(31,i6 y8.Kind)] rfl ⟨rfl,Ag⟩ ?_
  refine Bz 63 #[i6 y8.Kind,i6 1,i6 2] (some 32) (.bool (win y8.Kind 1 2)) (fun w19 hw19=>Bl w19 y8.Kind 1 2) (fun n20 (hn21:n17≤n20) => ?_)
  refine Dz [1,4,5,6,7,8,9,32] [(1,Ac h),(AC z),(Ff z),(6,.bool (DR y8)),(7,i6 (Ap y8)),(Fp h c),(Dh h c),(32,.bool (win y8.Kind 1 2))] ?_
  by_cases h22:(win y8.Kind 1 2)=true
  ·have hd23:=Es h22
   refine BQ 0 3 [] [[(ov (.bool true)),o0,(a1 3)]] [Value.bool (win y8.Kind 1 2)=Value.bool true,Qb (z+2)] [(1,Ac h),(AC z),(6,.bool (DR y8)),(7,i6 (Ap y8)),(Fp h c),(Dh h c),(33,.bool true),(35,i6 y8.Words)] rfl ⟨(congrArg Value.bool h22),rfl,Ag⟩ ?_
   refine Bz 63 #[i6 y8.Words,i6 1,i6 16] (some 36) (.bool (win y8.Words 1 16)) (fun w24 hw24=>Bl w24 y8.Words 1 16) (fun n25 (hn26:n20≤n25) => ?_)
   refine Dz [1,4,6,7,8,9,33,36] [(1,Ac h),(AC z),(6,.bool (DR y8)),(7,i6 (Ap y8)),(Fp h c),(Dh h c),(33,.bool true),(36,.bool (win y8.Words 1 16))] ?_
   by_cases h27:(win y8.Words 1 16)=true
   ·have hd28:=Es h27
    refine BQ 0 5 [] [[o0,(ov (.bool true)),o0,o0,o0]] [Value.bool (win y8.Words 1 16)=Value.bool true] [(1,Ac h),(AC z),(7,i6 (Ap y8)),(Fp h c),(Dh h c),(40,.bool (DR y8)),(41,Ac h)] rfl ⟨(congrArg Value.bool h27),Ag⟩ ?_
    refine Bz 93 #[(Ac h)] (some 42) (.agg #[(Ac h),i6 (-1)]) (fun w29 hw29=>Cm w29 (h:Int)) (fun n30 (hn31:n25≤n30) => ?_)
    refine Dz [1,4,7,8,9,40,42] [(1,Ac h),(AC z),(7,i6 (Ap y8)),(Fp h c),(Dh h c),(40,.bool (DR y8)),(PP h)] ?_
    refine Bz 62 #[.bool (DR y8),i6 415,.agg #[(Ac h),i6 (-1)]] (some 43) (.agg (Ai.arr (Ae (DR y8) 415 ⟨(h:Int), -1⟩))) (fun w32 hw32=>AQ w32 (hL.ext (hw32.ext rfl)) (DR y8) 415 (h:Int) (-1)) (fun n33 (hn34:n30≤n33) => ?_)
    refine Dz [1,4,7,8,9,43] [(1,Ac h),(AC z),(7,i6 (Ap y8)),(Fp h c),(Dh h c),(Gg y8 h)] ?_
    by_cases h35:(((Jp c (h:Int):Nat):Int):Int)=1
    ·refine BQ 0 3 [] [[o0,oT,o0]] [ET ((Jp c (h:Int):Nat):Int) 1] [(1,Ac h),(AC z),(7,i6 (Ap y8)),(Dh h c),(Gg y8 h),(45,.bool true),(46,Ac h)] rfl ⟨et,Ag⟩ ?_
     refine Bz 93 #[(Ac h)] (some 47) (.agg #[(Ac h),i6 (-1)]) (fun w36 hw36=>Cm w36 (h:Int)) (fun n37 (hn38:n33≤n37) => ?_)
     refine Dz [1,4,7,9,43,45,47] [(1,Ac h),(AC z),(7,i6 (Ap y8)),(Dh h c),(Gg y8 h),(45,.bool true),(JE h)] ?_
     refine Bz 62 #[.bool true,i6 416,.agg #[(Ac h),i6 (-1)]] (some 48) (.agg (Ai.arr (Ae true 416 ⟨(h:Int), -1⟩))) (fun w39 hw39=>AQ w39 (hL.ext (hw39.ext rfl)) true 416 (h:Int) (-1)) (fun n40 (hn41:n37≤n40) => ?_)
     refine BQ 0 2 [] [[o0,o0]] [] [(1,Ac h),(AC z),(Gg y8 h),(He h),(JH h c),(50,i6 (Ap y8))] rfl Ag ?_
     refine Bz 63 #[i6 ((Be c (h:Int):Nat):Int),i6 1,i6 (Ap y8)] (some 51) (.bool (win ((Be c (h:Int):Nat):Int) 1 (Ap y8))) (fun w42 hw42=>Bl w42 ((Be c (h:Int):Nat):Int) 1 (Ap y8)) (fun n43 (hn44:n40≤n43) => ?_)
     refine BQ 0 1 [] [[o0]] [] [(AC z),(Gg y8 h),(He h),(FP y8 h c),(52,Ac h)] rfl Ag ?_
     refine Bz 93 #[(Ac h)] (some 53) (.agg #[(Ac h),i6 (-1)]) (fun w45 hw45=>Cm w45 (h:Int)) (fun n46 (hn47:n43≤n46) => ?_)
     refine Dz [4,43,48,51,53] [(AC z),(Gg y8 h),(He h),(FP y8 h c),(JI h)] ?_
     refine Bz 62 #[.bool (win ((Be c (h:Int):Nat):Int) 1 (Ap y8)),i6 417,.agg #[(Ac h),i6 (-1)]] (some 54) (.agg (Ai.arr (Ae (win ((Be c (h:Int):Nat):Int) 1 (Ap y8)) 417 ⟨(h:Int), -1⟩))) (fun w48 hw48=>AQ w48 (hL.ext (hw48.ext rfl)) (win ((Be c (h:Int):Nat):Int) 1 (Ap y8)) 417 (h:Int) (-1)) (fun n49 (hn50:n46≤n49) => ?_)
     refine FD 0 1 [] [[o0]] [] [(AC z),(55,.slice (some ⟨n49,0,none⟩) 3 3)] ⟨w,n49+1,[(Ak w),(En c z),(Gi z),(Eu y8 z),(YC y8 h c n49)]⟩ rfl Ag ?_
     refine Bz 91 #[.slice (some ⟨n49,0,none⟩) 3 3] (some 56) (.agg (Ai.arr (AV [(Ae (DR y8) 415 ⟨(h:Int), -1⟩),(Ae true 416 ⟨(h:Int), -1⟩),(Ae (win ((Be c (h:Int):Nat):Int) 1 (Ap y8)) 417 ⟨(h:Int), -1⟩)]))) (fun w51 hw51=>CE w51 (hL.ext (hw51.ext rfl)) ⟨some ⟨n49,0,none⟩,3,[(Ae (DR y8) 415 ⟨(h:Int), -1⟩),(Ae true 416 ⟨(h:Int), -1⟩),(Ae (win ((Be c (h:Int):Nat):Int) 1 (Ap y8)) 417 ⟨(h:Int), -1⟩)]⟩ (Dy hw51 (i:=4) [(Ae (DR y8) 415 ⟨(h:Int), -1⟩),(Ae true 416 ⟨(h:Int), -1⟩),(Ae (win ((Be c (h:Int):Nat):Int) 1 (Ap y8)) 417 ⟨(h:Int), -1⟩)]) (show 3≤1000 by decide)) (fun n52 (hn53:n49+1≤n52) => ?_)
     refine FD 3 0 [] [[(an 3 2)]] [Qb (z+1),Qb (z+1),Qb (z+1)] [(AC z)] ⟨w,n52,[(Ak w),(En c z),(XH y8 h c z),(Eu y8 z),(YC y8 h c n49)]⟩ rfl ⟨rfl,rfl,rfl,Ag⟩ ?_
     refine AX [.at 2,.at 2,.at 2] [Qb (z+1),Qb (z+1),Qb (z+1)] (.agg #[i6 ((AV [(Ae (DR y8) 415 ⟨(h:Int), -1⟩),(Ae true 416 ⟨(h:Int), -1⟩),(Ae (win ((Be c (h:Int):Nat):Int) 1 (Ap y8)) 417 ⟨(h:Int), -1⟩)]).e),i6 ((AV [(Ae (DR y8) 415 ⟨(h:Int), -1⟩),(Ae true 416 ⟨(h:Int), -1⟩),(Ae (win ((Be c (h:Int):Nat):Int) 1 (Ap y8)) 417 ⟨(h:Int), -1⟩)]).Af.First),i6 ((AV [(Ae (DR y8) 415 ⟨(h:Int), -1⟩),(Ae true 416 ⟨(h:Int), -1⟩),(Ae (win ((Be c (h:Int):Nat):Int) 1 (Ap y8)) 417 ⟨(h:Int), -1⟩)]).Af.Second)]) ⟨rfl,rfl,rfl,Ag⟩ ?_
     intro w54 hw54
     have e0:MB c h=y8:=hy8.symm
     have eC:DD c h=(AV [(Ae (DR y8) 415 ⟨(h:Int), -1⟩),(Ae true 416 ⟨(h:Int), -1⟩),(Ae (win ((Be c (h:Int):Nat):Int) 1 (Ap y8)) 417 ⟨(h:Int), -1⟩)]):=by unfold DD;simp only[e0];simp[h22,h27,h35]
     exact⟨congrArg (fun t=>Ending.returned (Value.agg (Ai.arr t))) eC.symm,BC hw54⟩
    refine BQ 0 3 [] [[o0,oF,o0]] [EF ((Jp c (h:Int):Nat):Int) 1] [(1,Ac h),(AC z),(7,i6 (Ap y8)),(Dh h c),(Gg y8 h),(45,.bool false),(46,Ac h)] rfl ⟨ef,Ag⟩ ?_
    refine Bz 93 #[(Ac h)] (some 47) (.agg #[(Ac h),i6 (-1)]) (fun w55 hw55=>Cm w55 (h:Int)) (fun n56 (hn57:n33≤n56) => ?_)
    refine Dz [1,4,7,9,43,45,47] [(1,Ac h),(AC z),(7,i6 (Ap y8)),(Dh h c),(Gg y8 h),(45,.bool false),(JE h)] ?_
    refine Bz 62 #[.bool false,i6 416,.agg #[(Ac h),i6 (-1)]] (some 48) (.agg (Ai.arr (Ae false 416 ⟨(h:Int), -1⟩))) (fun w58 hw58=>AQ w58 (hL.ext (hw58.ext rfl)) false 416 (h:Int) (-1)) (fun n59 (hn60:n56≤n59) => ?_)
    refine BQ 0 2 [] [[o0,o0]] [] [(1,Ac h),(AC z),(Gg y8 h),(Hf h),(JH h c),(50,i6 (Ap y8))] rfl Ag ?_
    refine Bz 63 #[i6 ((Be c (h:Int):Nat):Int),i6 1,i6 (Ap y8)] (some 51) (.bool (win ((Be c (h:Int):Nat):Int) 1 (Ap y8))) (fun w61 hw61=>Bl w61 ((Be c (h:Int):Nat):Int) 1 (Ap y8)) (fun n62 (hn63:n59≤n62) => ?_)
    refine BQ 0 1 [] [[o0]] [] [(AC z),(Gg y8 h),(Hf h),(FP y8 h c),(52,Ac h)] rfl Ag ?_
    refine Bz 93 #[(Ac h)] (some 53) (.agg #[(Ac h),i6 (-1)]) (fun w64 hw64=>Cm w64 (h:Int)) (fun n65 (hn66:n62≤n65) => ?_)
    refine Dz [4,43,48,51,53] [(AC z),(Gg y8 h),(Hf h),(FP y8 h c),(JI h)] ?_
    refine Bz 62 #[.bool (win ((Be c (h:Int):Nat):Int) 1 (Ap y8)),i6 417,.agg #[(Ac h),i6 (-1)]] (some 54) (.agg (Ai.arr (Ae (win ((Be c (h:Int):Nat):Int) 1 (Ap y8)) 417 ⟨(h:Int), -1⟩))) (fun w67 hw67=>AQ w67 (hL.ext (hw67.ext rfl)) (win ((Be c (h:Int):Nat):Int) 1 (Ap y8)) 417 (h:Int) (-1)) (fun n68 (hn69:n65≤n68) => ?_)
    refine FD 0 1 [] [[o0]] [] [(AC z),(55,.slice (some ⟨n68,0,none⟩) 3 3)] ⟨w,n68+1,[(Ak w),(En c z),(Gi z),(Eu y8 z),(YJ y8 h c n68)]⟩ rfl Ag ?_
    refine Bz 91 #[.slice (some ⟨n68,0,none⟩) 3 3] (some 56) (.agg (Ai.arr (AV [(Ae (DR y8) 415 ⟨(h:Int), -1⟩),(Ae false 416 ⟨(h:Int), -1⟩),(Ae (win ((Be c (h:Int):Nat):Int) 1 (Ap y8)) 417 ⟨(h:Int), -1⟩)]))) (fun w70 hw70=>CE w70 (hL.ext (hw70.ext rfl)) ⟨some ⟨n68,0,none⟩,3,[(Ae (DR y8) 415 ⟨(h:Int), -1⟩),(Ae false 416 ⟨(h:Int), -1⟩),(Ae (win ((Be c (h:Int):Nat):Int) 1 (Ap y8)) 417 ⟨(h:Int), -1⟩)]⟩ (Dy hw70 (i:=4) [(Ae (DR y8) 415 ⟨(h:Int), -1⟩),(Ae false 416 ⟨(h:Int), -1⟩),(Ae (win ((Be c (h:Int):Nat):Int) 1 (Ap y8)) 417 ⟨(h:Int), -1⟩)]) (show 3≤1000 by decide)) (fun n71 (hn72:n68+1≤n71) => ?_)
    refine FD 3 0 [] [[(an 3 2)]] [Qb (z+1),Qb (z+1),Qb (z+1)] [(AC z)] ⟨w,n71,[(Ak w),(En c z),(XF y8 h c z),(Eu y8 z),(YJ y8 h c n68)]⟩ rfl ⟨rfl,rfl,rfl,Ag⟩ ?_
    refine AX [.at 2,.at 2,.at 2] [Qb (z+1),Qb (z+1),Qb (z+1)] (.agg #[i6 ((AV [(Ae (DR y8) 415 ⟨(h:Int), -1⟩),(Ae false 416 ⟨(h:Int), -1⟩),(Ae (win ((Be c (h:Int):Nat):Int) 1 (Ap y8)) 417 ⟨(h:Int), -1⟩)]).e),i6 ((AV [(Ae (DR y8) 415 ⟨(h:Int), -1⟩),(Ae false 416 ⟨(h:Int), -1⟩),(Ae (win ((Be c (h:Int):Nat):Int) 1 (Ap y8)) 417 ⟨(h:Int), -1⟩)]).Af.First),i6 ((AV [(Ae (DR y8) 415 ⟨(h:Int), -1⟩),(Ae false 416 ⟨(h:Int), -1⟩),(Ae (win ((Be c (h:Int):Nat):Int) 1 (Ap y8)) 417 ⟨(h:Int), -1⟩)]).Af.Second)]) ⟨rfl,rfl,rfl,Ag⟩ ?_
    intro w73 hw73
    have e0:MB c h=y8:=hy8.symm
    have eC:DD c h=(AV [(Ae (DR y8) 415 ⟨(h:Int), -1⟩),(Ae false 416 ⟨(h:Int), -1⟩),(Ae (win ((Be c (h:Int):Nat):Int) 1 (Ap y8)) 417 ⟨(h:Int), -1⟩)]):=by unfold DD;simp only[e0];simp[h22,h27,h35]
    exact⟨congrArg (fun t=>Ending.returned (Value.agg (Ai.arr t))) eC.symm,BC hw73⟩
   have hd74:=Jn h27
   refine BQ 0 5 [] [[o0,(ov (.bool false)),o0,o0]] [Value.bool (win y8.Words 1 16)=Value.bool false] [(1,Ac h),(AC z),(7,i6 (Ap y8)),(Fp h c),(Dh h c),(40,.bool false),(41,Ac h)] rfl ⟨(congrArg Value.bool (Bool.eq_false_iff.2 h27)),Ag⟩ ?_
   refine Bz 93 #[(Ac h)] (some 42) (.agg #[(Ac h),i6 (-1)]) (fun w75 hw75=>Cm w75 (h:Int)) (fun n76 (hn77:n25≤n76) => ?_)
   refine Dz [1,4,7,8,9,40,42] [(1,Ac h),(AC z),(7,i6 (Ap y8)),(Fp h c),(Dh h c),(40,.bool false),(PP h)] ?_
   refine Bz 62 #[.bool false,i6 415,.agg #[(Ac h),i6 (-1)]] (some 43) (.agg (Ai.arr (Ae false 415 ⟨(h:Int), -1⟩))) (fun w78 hw78=>AQ w78 (hL.ext (hw78.ext rfl)) false 415 (h:Int) (-1)) (fun n79 (hn80:n76≤n79) => ?_)
   refine Dz [1,4,7,8,9,43] [(1,Ac h),(AC z),(7,i6 (Ap y8)),(Fp h c),(Dh h c),(D6 h)] ?_
   by_cases h81:(((Jp c (h:Int):Nat):Int):Int)=1
   ·refine BQ 0 3 [] [[o0,oT,o0]] [ET ((Jp c (h:Int):Nat):Int) 1] [(1,Ac h),(AC z),(7,i6 (Ap y8)),(Dh h c),(D6 h),(45,.bool true),(46,Ac h)] rfl ⟨et,Ag⟩ ?_
    refine Bz 93 #[(Ac h)] (some 47) (.agg #[(Ac h),i6 (-1)]) (fun w82 hw82=>Cm w82 (h:Int)) (fun n83 (hn84:n79≤n83) => ?_)
    refine Dz [1,4,7,9,43,45,47] [(1,Ac h),(AC z),(7,i6 (Ap y8)),(Dh h c),(D6 h),(45,.bool true),(JE h)] ?_
    refine Bz 62 #[.bool true,i6 416,.agg #[(Ac h),i6 (-1)]] (some 48) (.agg (Ai.arr (Ae true 416 ⟨(h:Int), -1⟩))) (fun w85 hw85=>AQ w85 (hL.ext (hw85.ext rfl)) true 416 (h:Int) (-1)) (fun n86 (hn87:n83≤n86) => ?_)
    refine BQ 0 2 [] [[o0,o0]] [] [(1,Ac h),(AC z),(D6 h),(He h),(JH h c),(50,i6 (Ap y8))] rfl Ag ?_
    refine Bz 63 #[i6 ((Be c (h:Int):Nat):Int),i6 1,i6 (Ap y8)] (some 51) (.bool (win ((Be c (h:Int):Nat):Int) 1 (Ap y8))) (fun w88 hw88=>Bl w88 ((Be c (h:Int):Nat):Int) 1 (Ap y8)) (fun n89 (hn90:n86≤n89) => ?_)
    refine BQ 0 1 [] [[o0]] [] [(AC z),(D6 h),(He h),(FP y8 h c),(52,Ac h)] rfl Ag ?_
    refine Bz 93 #[(Ac h)] (some 53) (.agg #[(Ac h),i6 (-1)]) (fun w91 hw91=>Cm w91 (h:Int)) (fun n92 (hn93:n89≤n92) => ?_)
    refine Dz [4,43,48,51,53] [(AC z),(D6 h),(He h),(FP y8 h c),(JI h)] ?_
    refine Bz 62 #[.bool (win ((Be c (h:Int):Nat):Int) 1 (Ap y8)),i6 417,.agg #[(Ac h),i6 (-1)]] (some 54) (.agg (Ai.arr (Ae (win ((Be c (h:Int):Nat):Int) 1 (Ap y8)) 417 ⟨(h:Int), -1⟩))) (fun w94 hw94=>AQ w94 (hL.ext (hw94.ext rfl)) (win ((Be c (h:Int):Nat):Int) 1 (Ap y8)) 417 (h:Int) (-1)) (fun n95 (hn96:n92≤n95) => ?_)
    refine FD 0 1 [] [[o0]] [] [(AC z),(55,.slice (some ⟨n95,0,none⟩) 3 3)] ⟨w,n95+1,[(Ak w),(En c z),(Gi z),(Eu y8 z),(XV y8 h c n95)]⟩ rfl Ag ?_
    refine Bz 91 #[.slice (some ⟨n95,0,none⟩) 3 3] (some 56) (.agg (Ai.arr (AV [(Ae false 415 ⟨(h:Int), -1⟩),(Ae true 416 ⟨(h:Int), -1⟩),(Ae (win ((Be c (h:Int):Nat):Int) 1 (Ap y8)) 417 ⟨(h:Int), -1⟩)]))) (fun w97 hw97=>CE w97 (hL.ext (hw97.ext rfl)) ⟨some ⟨n95,0,none⟩,3,[(Ae false 415 ⟨(h:Int), -1⟩),(Ae true 416 ⟨(h:Int), -1⟩),(Ae (win ((Be c (h:Int):Nat):Int) 1 (Ap y8)) 417 ⟨(h:Int), -1⟩)]⟩ (Dy hw97 (i:=4) [(Ae false 415 ⟨(h:Int), -1⟩),(Ae true 416 ⟨(h:Int), -1⟩),(Ae (win ((Be c (h:Int):Nat):Int) 1 (Ap y8)) 417 ⟨(h:Int), -1⟩)]) (show 3≤1000 by decide)) (fun n98 (hn99:n95+1≤n98) => ?_)
    refine FD 3 0 [] [[(an 3 2)]] [Qb (z+1),Qb (z+1),Qb (z+1)] [(AC z)] ⟨w,n98,[(Ak w),(En c z),(TQ y8 h c z),(Eu y8 z),(XV y8 h c n95)]⟩ rfl ⟨rfl,rfl,rfl,Ag⟩ ?_
    refine AX [.at 2,.at 2,.at 2] [Qb (z+1),Qb (z+1),Qb (z+1)] (.agg #[i6 ((AV [(Ae false 415 ⟨(h:Int), -1⟩),(Ae true 416 ⟨(h:Int), -1⟩),(Ae (win ((Be c (h:Int):Nat):Int) 1 (Ap y8)) 417 ⟨(h:Int), -1⟩)]).e),i6 ((AV [(Ae false 415 ⟨(h:Int), -1⟩),(Ae true 416 ⟨(h:Int), -1⟩),(Ae (win ((Be c (h:Int):Nat):Int) 1 (Ap y8)) 417 ⟨(h:Int), -1⟩)]).Af.First),i6 ((AV [(Ae false 415 ⟨(h:Int), -1⟩),(Ae true 416 ⟨(h:Int), -1⟩),(Ae (win ((Be c (h:Int):Nat):Int) 1 (Ap y8)) 417 ⟨(h:Int), -1⟩)]).Af.Second)]) ⟨rfl,rfl,rfl,Ag⟩ ?_
    intro w100 hw100
    have e0:MB c h=y8:=hy8.symm
    have eC:DD c h=(AV [(Ae false 415 ⟨(h:Int), -1⟩),(Ae true 416 ⟨(h:Int), -1⟩),(Ae (win ((Be c (h:Int):Nat):Int) 1 (Ap y8)) 417 ⟨(h:Int), -1⟩)]):=by unfold DD;simp only[e0];simp[h22,h27,h81]
    exact⟨congrArg (fun t=>Ending.returned (Value.agg (Ai.arr t))) eC.symm,BC hw100⟩
   refine BQ 0 3 [] [[o0,oF,o0]] [EF ((Jp c (h:Int):Nat):Int) 1] [(1,Ac h),(AC z),(7,i6 (Ap y8)),(Dh h c),(D6 h),(45,.bool false),(46,Ac h)] rfl ⟨ef,Ag⟩ ?_
   refine Bz 93 #[(Ac h)] (some 47) (.agg #[(Ac h),i6 (-1)]) (fun w101 hw101=>Cm w101 (h:Int)) (fun n102 (hn103:n79≤n102) => ?_)
   refine Dz [1,4,7,9,43,45,47] [(1,Ac h),(AC z),(7,i6 (Ap y8)),(Dh h c),(D6 h),(45,.bool false),(JE h)] ?_
   refine Bz 62 #[.bool false,i6 416,.agg #[(Ac h),i6 (-1)]] (some 48) (.agg (Ai.arr (Ae false 416 ⟨(h:Int), -1⟩))) (fun w104 hw104=>AQ w104 (hL.ext (hw104.ext rfl)) false 416 (h:Int) (-1)) (fun n105 (hn106:n102≤n105) => ?_)
   refine BQ 0 2 [] [[o0,o0]] [] [(1,Ac h),(AC z),(D6 h),(Hf h),(JH h c),(50,i6 (Ap y8))] rfl Ag ?_
   refine Bz 63 #[i6 ((Be c (h:Int):Nat):Int),i6 1,i6 (Ap y8)] (some 51) (.bool (win ((Be c (h:Int):Nat):Int) 1 (Ap y8))) (fun w107 hw107=>Bl w107 ((Be c (h:Int):Nat):Int) 1 (Ap y8)) (fun n108 (hn109:n105≤n108) => ?_)
   refine BQ 0 1 [] [[o0]] [] [(AC z),(D6 h),(Hf h),(FP y8 h c),(52,Ac h)] rfl Ag ?_
   refine Bz 93 #[(Ac h)] (some 53) (.agg #[(Ac h),i6 (-1)]) (fun w110 hw110=>Cm w110 (h:Int)) (fun n111 (hn112:n108≤n111) => ?_)
   refine Dz [4,43,48,51,53] [(AC z),(D6 h),(Hf h),(FP y8 h c),(JI h)] ?_
   refine Bz 62 #[.bool (win ((Be c (h:Int):Nat):Int) 1 (Ap y8)),i6 417,.agg #[(Ac h),i6 (-1)]] (some 54) (.agg (Ai.arr (Ae (win ((Be c (h:Int):Nat):Int) 1 (Ap y8)) 417 ⟨(h:Int), -1⟩))) (fun w113 hw113=>AQ w113 (hL.ext (hw113.ext rfl)) (win ((Be c (h:Int):Nat):Int) 1 (Ap y8)) 417 (h:Int) (-1)) (fun n114 (hn115:n111≤n114) => ?_)
   refine FD 0 1 [] [[o0]] [] [(AC z),(55,.slice (some ⟨n114,0,none⟩) 3 3)] ⟨w,n114+1,[(Ak w),(En c z),(Gi z),(Eu y8 z),(YO y8 h c n114)]⟩ rfl Ag ?_
   refine Bz 91 #[.slice (some ⟨n114,0,none⟩) 3 3] (some 56) (.agg (Ai.arr (AV [(Ae false 415 ⟨(h:Int), -1⟩),(Ae false 416 ⟨(h:Int), -1⟩),(Ae (win ((Be c (h:Int):Nat):Int) 1 (Ap y8)) 417 ⟨(h:Int), -1⟩)]))) (fun w116 hw116=>CE w116 (hL.ext (hw116.ext rfl)) ⟨some ⟨n114,0,none⟩,3,[(Ae false 415 ⟨(h:Int), -1⟩),(Ae false 416 ⟨(h:Int), -1⟩),(Ae (win ((Be c (h:Int):Nat):Int) 1 (Ap y8)) 417 ⟨(h:Int), -1⟩)]⟩ (Dy hw116 (i:=4) [(Ae false 415 ⟨(h:Int), -1⟩),(Ae false 416 ⟨(h:Int), -1⟩),(Ae (win ((Be c (h:Int):Nat):Int) 1 (Ap y8)) 417 ⟨(h:Int), -1⟩)]) (show 3≤1000 by decide)) (fun n117 (hn118:n114+1≤n117) => ?_)
   refine FD 3 0 [] [[(an 3 2)]] [Qb (z+1),Qb (z+1),Qb (z+1)] [(AC z)] ⟨w,n117,[(Ak w),(En c z),(Tu y8 h c z),(Eu y8 z),(YO y8 h c n114)]⟩ rfl ⟨rfl,rfl,rfl,Ag⟩ ?_
   refine AX [.at 2,.at 2,.at 2] [Qb (z+1),Qb (z+1),Qb (z+1)] (.agg #[i6 ((AV [(Ae false 415 ⟨(h:Int), -1⟩),(Ae false 416 ⟨(h:Int), -1⟩),(Ae (win ((Be c (h:Int):Nat):Int) 1 (Ap y8)) 417 ⟨(h:Int), -1⟩)]).e),i6 ((AV [(Ae false 415 ⟨(h:Int), -1⟩),(Ae false 416 ⟨(h:Int), -1⟩),(Ae (win ((Be c (h:Int):Nat):Int) 1 (Ap y8)) 417 ⟨(h:Int), -1⟩)]).Af.First),i6 ((AV [(Ae false 415 ⟨(h:Int), -1⟩),(Ae false 416 ⟨(h:Int), -1⟩),(Ae (win ((Be c (h:Int):Nat):Int) 1 (Ap y8)) 417 ⟨(h:Int), -1⟩)]).Af.Second)]) ⟨rfl,rfl,rfl,Ag⟩ ?_
   intro w119 hw119
   have e0:MB c h=y8:=hy8.symm
   have eC:DD c h=(AV [(Ae false 415 ⟨(h:Int), -1⟩),(Ae false 416 ⟨(h:Int), -1⟩),(Ae (win ((Be c (h:Int):Nat):Int) 1 (Ap y8)) 417 ⟨(h:Int), -1⟩)]):=by unfold DD;simp only[e0];simp[h22,h27,h81]
   exact⟨congrArg (fun t=>Ending.returned (Value.agg (Ai.arr t))) eC.symm,BC hw119⟩
  have hd120:=Jn h22
  refine BQ 0 9 [] [[(ov (.bool false)),o0,o0,o0,o0]] [Value.bool (win y8.Kind 1 2)=Value.bool false] [(1,Ac h),(AC z),(7,i6 (Ap y8)),(Fp h c),(Dh h c),(40,.bool false),(41,Ac h)] rfl ⟨(congrArg Value.bool (Bool.eq_false_iff.2 h22)),Ag⟩ ?_
  refine Bz 93 #[(Ac h)] (some 42) (.agg #[(Ac h),i6 (-1)]) (fun w121 hw121=>Cm w121 (h:Int)) (fun n122 (hn123:n20≤n122) => ?_)
  refine Dz [1,4,7,8,9,40,42] [(1,Ac h),(AC z),(7,i6 (Ap y8)),(Fp h c),(Dh h c),(40,.bool false),(PP h)] ?_
  refine Bz 62 #[.bool false,i6 415,.agg #[(Ac h),i6 (-1)]] (some 43) (.agg (Ai.arr (Ae false 415 ⟨(h:Int), -1⟩))) (fun w124 hw124=>AQ w124 (hL.ext (hw124.ext rfl)) false 415 (h:Int) (-1)) (fun n125 (hn126:n122≤n125) => ?_)
  refine Dz [1,4,7,8,9,43] [(1,Ac h),(AC z),(7,i6 (Ap y8)),(Fp h c),(Dh h c),(D6 h)] ?_
  by_cases h127:(((Jp c (h:Int):Nat):Int):Int)=1
  ·refine BQ 0 3 [] [[o0,oT,o0]] [ET ((Jp c (h:Int):Nat):Int) 1] [(1,Ac h),(AC z),(7,i6 (Ap y8)),(Dh h c),(D6 h),(45,.bool true),(46,Ac h)] rfl ⟨et,Ag⟩ ?_
   refine Bz 93 #[(Ac h)] (some 47) (.agg #[(Ac h),i6 (-1)]) (fun w128 hw128=>Cm w128 (h:Int)) (fun n129 (hn130:n125≤n129) => ?_)
   refine Dz [1,4,7,9,43,45,47] [(1,Ac h),(AC z),(7,i6 (Ap y8)),(Dh h c),(D6 h),(45,.bool true),(JE h)] ?_
   refine Bz 62 #[.bool true,i6 416,.agg #[(Ac h),i6 (-1)]] (some 48) (.agg (Ai.arr (Ae true 416 ⟨(h:Int), -1⟩))) (fun w131 hw131=>AQ w131 (hL.ext (hw131.ext rfl)) true 416 (h:Int) (-1)) (fun n132 (hn133:n129≤n132) => ?_)
   refine BQ 0 2 [] [[o0,o0]] [] [(1,Ac h),(AC z),(D6 h),(He h),(JH h c),(50,i6 (Ap y8))] rfl Ag ?_
   refine Bz 63 #[i6 ((Be c (h:Int):Nat):Int),i6 1,i6 (Ap y8)] (some 51) (.bool (win ((Be c (h:Int):Nat):Int) 1 (Ap y8))) (fun w134 hw134=>Bl w134 ((Be c (h:Int):Nat):Int) 1 (Ap y8)) (fun n135 (hn136:n132≤n135) => ?_)
   refine BQ 0 1 [] [[o0]] [] [(AC z),(D6 h),(He h),(FP y8 h c),(52,Ac h)] rfl Ag ?_
   refine Bz 93 #[(Ac h)] (some 53) (.agg #[(Ac h),i6 (-1)]) (fun w137 hw137=>Cm w137 (h:Int)) (fun n138 (hn139:n135≤n138) => ?_)
   refine Dz [4,43,48,51,53] [(AC z),(D6 h),(He h),(FP y8 h c),(JI h)] ?_
   refine Bz 62 #[.bool (win ((Be c (h:Int):Nat):Int) 1 (Ap y8)),i6 417,.agg #[(Ac h),i6 (-1)]] (some 54) (.agg (Ai.arr (Ae (win ((Be c (h:Int):Nat):Int) 1 (Ap y8)) 417 ⟨(h:Int), -1⟩))) (fun w140 hw140=>AQ w140 (hL.ext (hw140.ext rfl)) (win ((Be c (h:Int):Nat):Int) 1 (Ap y8)) 417 (h:Int) (-1)) (fun n141 (hn142:n138≤n141) => ?_)
   refine FD 0 1 [] [[o0]] [] [(AC z),(55,.slice (some ⟨n141,0,none⟩) 3 3)] ⟨w,n141+1,[(Ak w),(En c z),(Gi z),(Eu y8 z),(YX y8 h c n141)]⟩ rfl Ag ?_
   refine Bz 91 #[.slice (some ⟨n141,0,none⟩) 3 3] (some 56) (.agg (Ai.arr (AV [(Ae false 415 ⟨(h:Int), -1⟩),(Ae true 416 ⟨(h:Int), -1⟩),(Ae (win ((Be c (h:Int):Nat):Int) 1 (Ap y8)) 417 ⟨(h:Int), -1⟩)]))) (fun w143 hw143=>CE w143 (hL.ext (hw143.ext rfl)) ⟨some ⟨n141,0,none⟩,3,[(Ae false 415 ⟨(h:Int), -1⟩),(Ae true 416 ⟨(h:Int), -1⟩),(Ae (win ((Be c (h:Int):Nat):Int) 1 (Ap y8)) 417 ⟨(h:Int), -1⟩)]⟩ (Dy hw143 (i:=4) [(Ae false 415 ⟨(h:Int), -1⟩),(Ae true 416 ⟨(h:Int), -1⟩),(Ae (win ((Be c (h:Int):Nat):Int) 1 (Ap y8)) 417 ⟨(h:Int), -1⟩)]) (show 3≤1000 by decide)) (fun n144 (hn145:n141+1≤n144) => ?_)
   refine FD 3 0 [] [[(an 3 2)]] [Qb (z+1),Qb (z+1),Qb (z+1)] [(AC z)] ⟨w,n144,[(Ak w),(En c z),(TQ y8 h c z),(Eu y8 z),(YX y8 h c n141)]⟩ rfl ⟨rfl,rfl,rfl,Ag⟩ ?_
   refine AX [.at 2,.at 2,.at 2] [Qb (z+1),Qb (z+1),Qb (z+1)] (.agg #[i6 ((AV [(Ae false 415 ⟨(h:Int), -1⟩),(Ae true 416 ⟨(h:Int), -1⟩),(Ae (win ((Be c (h:Int):Nat):Int) 1 (Ap y8)) 417 ⟨(h:Int), -1⟩)]).e),i6 ((AV [(Ae false 415 ⟨(h:Int), -1⟩),(Ae true 416 ⟨(h:Int), -1⟩),(Ae (win ((Be c (h:Int):Nat):Int) 1 (Ap y8)) 417 ⟨(h:Int), -1⟩)]).Af.First),i6 ((AV [(Ae false 415 ⟨(h:Int), -1⟩),(Ae true 416 ⟨(h:Int), -1⟩),(Ae (win ((Be c (h:Int):Nat):Int) 1 (Ap y8)) 417 ⟨(h:Int), -1⟩)]).Af.Second)]) ⟨rfl,rfl,rfl,Ag⟩ ?_
   intro w146 hw146
   have e0:MB c h=y8:=hy8.symm
   have eC:DD c h=(AV [(Ae false 415 ⟨(h:Int), -1⟩),(Ae true 416 ⟨(h:Int), -1⟩),(Ae (win ((Be c (h:Int):Nat):Int) 1 (Ap y8)) 417 ⟨(h:Int), -1⟩)]):=by unfold DD;simp only[e0];simp[h22,h127]
   exact⟨congrArg (fun t=>Ending.returned (Value.agg (Ai.arr t))) eC.symm,BC hw146⟩
  refine BQ 0 3 [] [[o0,oF,o0]] [EF ((Jp c (h:Int):Nat):Int) 1] [(1,Ac h),(AC z),(7,i6 (Ap y8)),(Dh h c),(D6 h),(45,.bool false),(46,Ac h)] rfl ⟨ef,Ag⟩ ?_
  refine Bz 93 #[(Ac h)] (some 47) (.agg #[(Ac h),i6 (-1)]) (fun w147 hw147=>Cm w147 (h:Int)) (fun n148 (hn149:n125≤n148) => ?_)
  refine Dz [1,4,7,9,43,45,47] [(1,Ac h),(AC z),(7,i6 (Ap y8)),(Dh h c),(D6 h),(45,.bool false),(JE h)] ?_
  refine Bz 62 #[.bool false,i6 416,.agg #[(Ac h),i6 (-1)]] (some 48) (.agg (Ai.arr (Ae false 416 ⟨(h:Int), -1⟩))) (fun w150 hw150=>AQ w150 (hL.ext (hw150.ext rfl)) false 416 (h:Int) (-1)) (fun n151 (hn152:n148≤n151) => ?_)
  refine BQ 0 2 [] [[o0,o0]] [] [(1,Ac h),(AC z),(D6 h),(Hf h),(JH h c),(50,i6 (Ap y8))] rfl Ag ?_
  refine Bz 63 #[i6 ((Be c (h:Int):Nat):Int),i6 1,i6 (Ap y8)] (some 51) (.bool (win ((Be c (h:Int):Nat):Int) 1 (Ap y8))) (fun w153 hw153=>Bl w153 ((Be c (h:Int):Nat):Int) 1 (Ap y8)) (fun n154 (hn155:n151≤n154) => ?_)
  refine BQ 0 1 [] [[o0]] [] [(AC z),(D6 h),(Hf h),(FP y8 h c),(52,Ac h)] rfl Ag ?_
  refine Bz 93 #[(Ac h)] (some 53) (.agg #[(Ac h),i6 (-1)]) (fun w156 hw156=>Cm w156 (h:Int)) (fun n157 (hn158:n154≤n157) => ?_)
  refine Dz [4,43,48,51,53] [(AC z),(D6 h),(Hf h),(FP y8 h c),(JI h)] ?_
  refine Bz 62 #[.bool (win ((Be c (h:Int):Nat):Int) 1 (Ap y8)),i6 417,.agg #[(Ac h),i6 (-1)]] (some 54) (.agg (Ai.arr (Ae (win ((Be c (h:Int):Nat):Int) 1 (Ap y8)) 417 ⟨(h:Int), -1⟩))) (fun w159 hw159=>AQ w159 (hL.ext (hw159.ext rfl)) (win ((Be c (h:Int):Nat):Int) 1 (Ap y8)) 417 (h:Int) (-1)) (fun n160 (hn161:n157≤n160) => ?_)
  refine FD 0 1 [] [[o0]] [] [(AC z),(55,.slice (some ⟨n160,0,none⟩) 3 3)] ⟨w,n160+1,[(Ak w),(En c z),(Gi z),(Eu y8 z),(Zf y8 h c n160)]⟩ rfl Ag ?_
  refine Bz 91 #[.slice (some ⟨n160,0,none⟩) 3 3] (some 56) (.agg (Ai.arr (AV [(Ae false 415 ⟨(h:Int), -1⟩),(Ae false 416 ⟨(h:Int), -1⟩),(Ae (win ((Be c (h:Int):Nat):Int) 1 (Ap y8)) 417 ⟨(h:Int), -1⟩)]))) (fun w162 hw162=>CE w162 (hL.ext (hw162.ext rfl)) ⟨some ⟨n160,0,none⟩,3,[(Ae false 415 ⟨(h:Int), -1⟩),(Ae false 416 ⟨(h:Int), -1⟩),(Ae (win ((Be c (h:Int):Nat):Int) 1 (Ap y8)) 417 ⟨(h:Int), -1⟩)]⟩ (Dy hw162 (i:=4) [(Ae false 415 ⟨(h:Int), -1⟩),(Ae false 416 ⟨(h:Int), -1⟩),(Ae (win ((Be c (h:Int):Nat):Int) 1 (Ap y8)) 417 ⟨(h:Int), -1⟩)]) (show 3≤1000 by decide)) (fun n163 (hn164:n160+1≤n163) => ?_)
  refine FD 3 0 [] [[(an 3 2)]] [Qb (z+1),Qb (z+1),Qb (z+1)] [(AC z)] ⟨w,n163,[(Ak w),(En c z),(Tu y8 h c z),(Eu y8 z),(Zf y8 h c n160)]⟩ rfl ⟨rfl,rfl,rfl,Ag⟩ ?_
  refine AX [.at 2,.at 2,.at 2] [Qb (z+1),Qb (z+1),Qb (z+1)] (.agg #[i6 ((AV [(Ae false 415 ⟨(h:Int), -1⟩),(Ae false 416 ⟨(h:Int), -1⟩),(Ae (win ((Be c (h:Int):Nat):Int) 1 (Ap y8)) 417 ⟨(h:Int), -1⟩)]).e),i6 ((AV [(Ae false 415 ⟨(h:Int), -1⟩),(Ae false 416 ⟨(h:Int), -1⟩),(Ae (win ((Be c (h:Int):Nat):Int) 1 (Ap y8)) 417 ⟨(h:Int), -1⟩)]).Af.First),i6 ((AV [(Ae false 415 ⟨(h:Int), -1⟩),(Ae false 416 ⟨(h:Int), -1⟩),(Ae (win ((Be c (h:Int):Nat):Int) 1 (Ap y8)) 417 ⟨(h:Int), -1⟩)]).Af.Second)]) ⟨rfl,rfl,rfl,Ag⟩ ?_
  intro w165 hw165
  have e0:MB c h=y8:=hy8.symm
  have eC:DD c h=(AV [(Ae false 415 ⟨(h:Int), -1⟩),(Ae false 416 ⟨(h:Int), -1⟩),(Ae (win ((Be c (h:Int):Nat):Int) 1 (Ap y8)) 417 ⟨(h:Int), -1⟩)]):=by unfold DD;simp only[e0];simp[h22,h127]
  exact⟨congrArg (fun t=>Ending.returned (Value.agg (Ai.arr t))) eC.symm,BC hw165⟩
 refine A7 3 0 [] [[o0,(a1 3),oF,o0,o0]] [Qb (z+2),EF y8.Dq 0] [(1,Ac h),(2,pt z),(AC z),(Ff z),(6,.bool false),(7,i6 4)] rfl ⟨rfl,ef,Ag⟩ ?_
 refine RD (fun a w'=>∃ (n166:Nat),z+3≤n166∧St 57 [(1,Ac h),(2,pt z),(AC z),(Ff z),(6,.bool (DR y8)),(7,i6 (Ap y8))] [] ⟨w,n166,[(Ak w),(En c z),(Gi z),(Eu y8 z)]⟩ a w') ?_ ?_
 ·refine DC ?_
  by_cases h168:(y8.Kind:Int)=2
  ·refine A7 5 2 [1] [[o0,(a1 3),oT],[o0,(a1 3)]] [Qb (z+2),ET y8.Kind 2,Qb (z+2)] [(1,Ac h),(2,pt z),(AC z),(Ff z),(22,i6 y8.Dq)] rfl ⟨rfl,et,rfl,Ag⟩ ?_
   refine Bz 63 #[i6 y8.Dq,i6 1,i6 8] (some 23) (.bool (win y8.Dq 1 8)) (fun w169 hw169=>Bl w169 y8.Dq 1 8) (fun n170 (hn171:z+3≤n170) => ?_)
   refine BQ 1 0 [] [[o0,o0]] [] [(1,Ac h),(2,pt z),(AC z),(Ff z),(6,.bool (win y8.Dq 1 8)),(7,i6 1)] rfl Ag ?_
   have e6:DR y8=win y8.Dq 1 8:=(if_pos h168).trans (by first | rfl | exact decide_eq_true (by assumption) | exact decide_eq_false (by assumption))
   have e7:Ap y8=1:=if_pos h168
   refine BR [1,2,4,5,6,7] [(1,Ac h),(2,pt z),(AC z),(Ff z),(6,.bool (win y8.Dq 1 8)),(7,i6 1)] ?_
   refine Cj (fun a w' hs=>⟨n170,by omega,(by(try dsimp only[Gi,Eu,En,AC,Ff]at hs ⊢);rw[e6,e7];exact hs)⟩)
  refine A7 5 0 [0] [[o0,(a1 3),oF]] [Qb (z+2),EF y8.Kind 2] [(1,Ac h),(2,pt z),(AC z),(Ff z),(6,.bool false),(7,i6 4),(20,.bool false)] rfl ⟨rfl,ef,Ag⟩ ?_
  have e6:DR y8=false:=(if_neg h168).trans (by first | rfl | exact decide_eq_true (by assumption) | exact decide_eq_false (by assumption))
  have e7:Ap y8=4:=if_neg h168
  refine BR [1,2,4,5,6,7] [(1,Ac h),(2,pt z),(AC z),(Ff z),(6,.bool false),(7,i6 4)] ?_
  refine Cj (fun a w' hs=>⟨(z+3),by omega,(by(try dsimp only[Gi,Eu,En,AC,Ff]at hs ⊢);rw[e6,e7];exact hs)⟩)
 rintro a w' ⟨n166,hn167,hs⟩
 refine(?_:G Tryd.prog 57 [(1,Ac h),(2,pt z),(AC z),(Ff z),(6,.bool (DR y8)),(7,i6 (Ap y8))] [] ⟨w,n166,[(Ak w),(En c z),(Gi z),(Eu y8 z)]⟩ _ _ _) a w' hs
 clear hs a w'
 refine A7 2 2 [] [[(an 7 1),o0]] [Qb z,Qb z,Qb z,Qb z,Qb z,Qb z,Qb z] [(1,Ac h),(AC z),(Ff z),(6,.bool (DR y8)),(7,i6 (Ap y8)),(25,.agg (Aj.arr c)),(26,Ac h)] rfl ⟨rfl,rfl,rfl,rfl,rfl,rfl,rfl,Ag⟩ ?_
 refine Bz 97 #[.agg (Aj.arr c),Ac h] (some 27) (.tuple #[i6 ((Jp c (h:Int):Nat):Int),i6 ((Be c (h:Int):Nat):Int)]) (fun w172 hw172=>Oz w172 c (hc.ext (hw172.ext rfl) (fun _ h=>h)) (h:Int) hm hq) (fun n173 (hn174:n166≤n173) => ?_)
 refine BQ 4 2 [] [[o0,o0,o0,o0,o0],[o0,(a1 3)]] [Qb (z+2)] [(1,Ac h),(AC z),(Ff z),(6,.bool (DR y8)),(7,i6 (Ap y8)),(Fp h c),(Dh h c),(31,i6 y8.Kind)] rfl ⟨rfl,Ag⟩ ?_
 refine Bz 63 #[i6 y8.Kind,i6 1,i6 2] (some 32) (.bool (win y8.Kind 1 2)) (fun w175 hw175=>Bl w175 y8.Kind 1 2) (fun n176 (hn177:n173≤n176) => ?_)
 refine Dz [1,4,5,6,7,8,9,32] [(1,Ac h),(AC z),(Ff z),(6,.bool (DR y8)),(7,i6 (Ap y8)),(Fp h c),(Dh h c),(32,.bool (win y8.Kind 1 2))] ?_
 by_cases h178:(win y8.Kind 1 2)=true
 ·have hd179:=Es h178
  refine BQ 0 3 [] [[(ov (.bool true)),o0,(a1 3)]] [Value.bool (win y8.Kind 1 2)=Value.bool true,Qb (z+2)] [(1,Ac h),(AC z),(6,.bool (DR y8)),(7,i6 (Ap y8)),(Fp h c),(Dh h c),(33,.bool true),(35,i6 y8.Words)] rfl ⟨(congrArg Value.bool h178),rfl,Ag⟩ ?_
  refine Bz 63 #[i6 y8.Words,i6 1,i6 16] (some 36) (.bool (win y8.Words 1 16)) (fun w180 hw180=>Bl w180 y8.Words 1 16) (fun n181 (hn182:n176≤n181) => ?_)
  refine Dz [1,4,6,7,8,9,33,36] [(1,Ac h),(AC z),(6,.bool (DR y8)),(7,i6 (Ap y8)),(Fp h c),(Dh h c),(33,.bool true),(36,.bool (win y8.Words 1 16))] ?_
  by_cases h183:(win y8.Words 1 16)=true
  ·have hd184:=Es h183
   refine BQ 0 5 [] [[o0,(ov (.bool true)),o0,o0,o0]] [Value.bool (win y8.Words 1 16)=Value.bool true] [(1,Ac h),(AC z),(7,i6 (Ap y8)),(Fp h c),(Dh h c),(40,.bool (DR y8)),(41,Ac h)] rfl ⟨(congrArg Value.bool h183),Ag⟩ ?_
   refine Bz 93 #[(Ac h)] (some 42) (.agg #[(Ac h),i6 (-1)]) (fun w185 hw185=>Cm w185 (h:Int)) (fun n186 (hn187:n181≤n186) => ?_)
   refine Dz [1,4,7,8,9,40,42] [(1,Ac h),(AC z),(7,i6 (Ap y8)),(Fp h c),(Dh h c),(40,.bool (DR y8)),(PP h)] ?_
   refine Bz 62 #[.bool (DR y8),i6 415,.agg #[(Ac h),i6 (-1)]] (some 43) (.agg (Ai.arr (Ae (DR y8) 415 ⟨(h:Int), -1⟩))) (fun w188 hw188=>AQ w188 (hL.ext (hw188.ext rfl)) (DR y8) 415 (h:Int) (-1)) (fun n189 (hn190:n186≤n189) => ?_)
   refine Dz [1,4,7,8,9,43] [(1,Ac h),(AC z),(7,i6 (Ap y8)),(Fp h c),(Dh h c),(Gg y8 h)] ?_
   by_cases h191:(((Jp c (h:Int):Nat):Int):Int)=1
   ·refine BQ 0 3 [] [[o0,oT,o0]] [ET ((Jp c (h:Int):Nat):Int) 1] [(1,Ac h),(AC z),(7,i6 (Ap y8)),(Dh h c),(Gg y8 h),(45,.bool true),(46,Ac h)] rfl ⟨et,Ag⟩ ?_
    refine Bz 93 #[(Ac h)] (some 47) (.agg #[(Ac h),i6 (-1)]) (fun w192 hw192=>Cm w192 (h:Int)) (fun n193 (hn194:n189≤n193) => ?_)
    refine Dz [1,4,7,9,43,45,47] [(1,Ac h),(AC z),(7,i6 (Ap y8)),(Dh h c),(Gg y8 h),(45,.bool true),(JE h)] ?_
    refine Bz 62 #[.bool true,i6 416,.agg #[(Ac h),i6 (-1)]] (some 48) (.agg (Ai.arr (Ae true 416 ⟨(h:Int), -1⟩))) (fun w195 hw195=>AQ w195 (hL.ext (hw195.ext rfl)) true 416 (h:Int) (-1)) (fun n196 (hn197:n193≤n196) => ?_)
    refine BQ 0 2 [] [[o0,o0]] [] [(1,Ac h),(AC z),(Gg y8 h),(He h),(JH h c),(50,i6 (Ap y8))] rfl Ag ?_
    refine Bz 63 #[i6 ((Be c (h:Int):Nat):Int),i6 1,i6 (Ap y8)] (some 51) (.bool (win ((Be c (h:Int):Nat):Int) 1 (Ap y8))) (fun w198 hw198=>Bl w198 ((Be c (h:Int):Nat):Int) 1 (Ap y8)) (fun n199 (hn200:n196≤n199) => ?_)
    refine BQ 0 1 [] [[o0]] [] [(AC z),(Gg y8 h),(He h),(FP y8 h c),(52,Ac h)] rfl Ag ?_
    refine Bz 93 #[(Ac h)] (some 53) (.agg #[(Ac h),i6 (-1)]) (fun w201 hw201=>Cm w201 (h:Int)) (fun n202 (hn203:n199≤n202) => ?_)
    refine Dz [4,43,48,51,53] [(AC z),(Gg y8 h),(He h),(FP y8 h c),(JI h)] ?_
    refine Bz 62 #[.bool (win ((Be c (h:Int):Nat):Int) 1 (Ap y8)),i6 417,.agg #[(Ac h),i6 (-1)]] (some 54) (.agg (Ai.arr (Ae (win ((Be c (h:Int):Nat):Int) 1 (Ap y8)) 417 ⟨(h:Int), -1⟩))) (fun w204 hw204=>AQ w204 (hL.ext (hw204.ext rfl)) (win ((Be c (h:Int):Nat):Int) 1 (Ap y8)) 417 (h:Int) (-1)) (fun n205 (hn206:n202≤n205) => ?_)
    refine FD 0 1 [] [[o0]] [] [(AC z),(55,.slice (some ⟨n205,0,none⟩) 3 3)] ⟨w,n205+1,[(Ak w),(En c z),(Gi z),(Eu y8 z),(Zj y8 h c n205)]⟩ rfl Ag ?_
    refine Bz 91 #[.slice (some ⟨n205,0,none⟩) 3 3] (some 56) (.agg (Ai.arr (AV [(Ae (DR y8) 415 ⟨(h:Int), -1⟩),(Ae true 416 ⟨(h:Int), -1⟩),(Ae (win ((Be c (h:Int):Nat):Int) 1 (Ap y8)) 417 ⟨(h:Int), -1⟩)]))) (fun w207 hw207=>CE w207 (hL.ext (hw207.ext rfl)) ⟨some ⟨n205,0,none⟩,3,[(Ae (DR y8) 415 ⟨(h:Int), -1⟩),(Ae true 416 ⟨(h:Int), -1⟩),(Ae (win ((Be c (h:Int):Nat):Int) 1 (Ap y8)) 417 ⟨(h:Int), -1⟩)]⟩ (Dy hw207 (i:=4) [(Ae (DR y8) 415 ⟨(h:Int), -1⟩),(Ae true 416 ⟨(h:Int), -1⟩),(Ae (win ((Be c (h:Int):Nat):Int) 1 (Ap y8)) 417 ⟨(h:Int), -1⟩)]) (show 3≤1000 by decide)) (fun n208 (hn209:n205+1≤n208) => ?_)
    refine FD 3 0 [] [[(an 3 2)]] [Qb (z+1),Qb (z+1),Qb (z+1)] [(AC z)] ⟨w,n208,[(Ak w),(En c z),(XH y8 h c z),(Eu y8 z),(Zj y8 h c n205)]⟩ rfl ⟨rfl,rfl,rfl,Ag⟩ ?_
    refine AX [.at 2,.at 2,.at 2] [Qb (z+1),Qb (z+1),Qb (z+1)] (.agg #[i6 ((AV [(Ae (DR y8) 415 ⟨(h:Int), -1⟩),(Ae true 416 ⟨(h:Int), -1⟩),(Ae (win ((Be c (h:Int):Nat):Int) 1 (Ap y8)) 417 ⟨(h:Int), -1⟩)]).e),i6 ((AV [(Ae (DR y8) 415 ⟨(h:Int), -1⟩),(Ae true 416 ⟨(h:Int), -1⟩),(Ae (win ((Be c (h:Int):Nat):Int) 1 (Ap y8)) 417 ⟨(h:Int), -1⟩)]).Af.First),i6 ((AV [(Ae (DR y8) 415 ⟨(h:Int), -1⟩),(Ae true 416 ⟨(h:Int), -1⟩),(Ae (win ((Be c (h:Int):Nat):Int) 1 (Ap y8)) 417 ⟨(h:Int), -1⟩)]).Af.Second)]) ⟨rfl,rfl,rfl,Ag⟩ ?_
    intro w210 hw210
    have e0:MB c h=y8:=hy8.symm
    have eC:DD c h=(AV [(Ae (DR y8) 415 ⟨(h:Int), -1⟩),(Ae true 416 ⟨(h:Int), -1⟩),(Ae (win ((Be c (h:Int):Nat):Int) 1 (Ap y8)) 417 ⟨(h:Int), -1⟩)]):=by unfold DD;simp only[e0];simp[h178,h183,h191]
    exact⟨congrArg (fun t=>Ending.returned (Value.agg (Ai.arr t))) eC.symm,BC hw210⟩
   refine BQ 0 3 [] [[o0,oF,o0]] [EF ((Jp c (h:Int):Nat):Int) 1] [(1,Ac h),(AC z),(7,i6 (Ap y8)),(Dh h c),(Gg y8 h),(45,.bool false),(46,Ac h)] rfl ⟨ef,Ag⟩ ?_
   refine Bz 93 #[(Ac h)] (some 47) (.agg #[(Ac h),i6 (-1)]) (fun w211 hw211=>Cm w211 (h:Int)) (fun n212 (hn213:n189≤n212) => ?_)
   refine Dz [1,4,7,9,43,45,47] [(1,Ac h),(AC z),(7,i6 (Ap y8)),(Dh h c),(Gg y8 h),(45,.bool false),(JE h)] ?_
   refine Bz 62 #[.bool false,i6 416,.agg #[(Ac h),i6 (-1)]] (some 48) (.agg (Ai.arr (Ae false 416 ⟨(h:Int), -1⟩))) (fun w214 hw214=>AQ w214 (hL.ext (hw214.ext rfl)) false 416 (h:Int) (-1)) (fun n215 (hn216:n212≤n215) => ?_)
   refine BQ 0 2 [] [[o0,o0]] [] [(1,Ac h),(AC z),(Gg y8 h),(Hf h),(JH h c),(50,i6 (Ap y8))] rfl Ag ?_
   refine Bz 63 #[i6 ((Be c (h:Int):Nat):Int),i6 1,i6 (Ap y8)] (some 51) (.bool (win ((Be c (h:Int):Nat):Int) 1 (Ap y8))) (fun w217 hw217=>Bl w217 ((Be c (h:Int):Nat):Int) 1 (Ap y8)) (fun n218 (hn219:n215≤n218) => ?_)
   refine BQ 0 1 [] [[o0]] [] [(AC z),(Gg y8 h),(Hf h),(FP y8 h c),(52,Ac h)] rfl Ag ?_
   refine Bz 93 #[(Ac h)] (some 53) (.agg #[(Ac h),i6 (-1)]) (fun w220 hw220=>Cm w220 (h:Int)) (fun n221 (hn222:n218≤n221) => ?_)
   refine Dz [4,43,48,51,53] [(AC z),(Gg y8 h),(Hf h),(FP y8 h c),(JI h)] ?_
   refine Bz 62 #[.bool (win ((Be c (h:Int):Nat):Int) 1 (Ap y8)),i6 417,.agg #[(Ac h),i6 (-1)]] (some 54) (.agg (Ai.arr (Ae (win ((Be c (h:Int):Nat):Int) 1 (Ap y8)) 417 ⟨(h:Int), -1⟩))) (fun w223 hw223=>AQ w223 (hL.ext (hw223.ext rfl)) (win ((Be c (h:Int):Nat):Int) 1 (Ap y8)) 417 (h:Int) (-1)) (fun n224 (hn225:n221≤n224) => ?_)
   refine FD 0 1 [] [[o0]] [] [(AC z),(55,.slice (some ⟨n224,0,none⟩) 3 3)] ⟨w,n224+1,[(Ak w),(En c z),(Gi z),(Eu y8 z),(Zw n224 y8 h c)]⟩ rfl Ag ?_
   refine Bz 91 #[.slice (some ⟨n224,0,none⟩) 3 3] (some 56) (.agg (Ai.arr (AV [(Ae (DR y8) 415 ⟨(h:Int), -1⟩),(Ae false 416 ⟨(h:Int), -1⟩),(Ae (win ((Be c (h:Int):Nat):Int) 1 (Ap y8)) 417 ⟨(h:Int), -1⟩)]))) (fun w226 hw226=>CE w226 (hL.ext (hw226.ext rfl)) ⟨some ⟨n224,0,none⟩,3,[(Ae (DR y8) 415 ⟨(h:Int), -1⟩),(Ae false 416 ⟨(h:Int), -1⟩),(Ae (win ((Be c (h:Int):Nat):Int) 1 (Ap y8)) 417 ⟨(h:Int), -1⟩)]⟩ (Dy hw226 (i:=4) [(Ae (DR y8) 415 ⟨(h:Int), -1⟩),(Ae false 416 ⟨(h:Int), -1⟩),(Ae (win ((Be c (h:Int):Nat):Int) 1 (Ap y8)) 417 ⟨(h:Int), -1⟩)]) (show 3≤1000 by decide)) (fun n227 (hn228:n224+1≤n227) => ?_)
   refine FD 3 0 [] [[(an 3 2)]] [Qb (z+1),Qb (z+1),Qb (z+1)] [(AC z)] ⟨w,n227,[(Ak w),(En c z),(XF y8 h c z),(Eu y8 z),(Zw n224 y8 h c)]⟩ rfl ⟨rfl,rfl,rfl,Ag⟩ ?_
   refine AX [.at 2,.at 2,.at 2] [Qb (z+1),Qb (z+1),Qb (z+1)] (.agg #[i6 ((AV [(Ae (DR y8) 415 ⟨(h:Int), -1⟩),(Ae false 416 ⟨(h:Int), -1⟩),(Ae (win ((Be c (h:Int):Nat):Int) 1 (Ap y8)) 417 ⟨(h:Int), -1⟩)]).e),i6 ((AV [(Ae (DR y8) 415 ⟨(h:Int), -1⟩),(Ae false 416 ⟨(h:Int), -1⟩),(Ae (win ((Be c (h:Int):Nat):Int) 1 (Ap y8)) 417 ⟨(h:Int), -1⟩)]).Af.First),i6 ((AV [(Ae (DR y8) 415 ⟨(h:Int), -1⟩),(Ae false 416 ⟨(h:Int), -1⟩),(Ae (win ((Be c (h:Int):Nat):Int) 1 (Ap y8)) 417 ⟨(h:Int), -1⟩)]).Af.Second)]) ⟨rfl,rfl,rfl,Ag⟩ ?_
   intro w229 hw229
   have e0:MB c h=y8:=hy8.symm
   have eC:DD c h=(AV [(Ae (DR y8) 415 ⟨(h:Int), -1⟩),(Ae false 416 ⟨(h:Int), -1⟩),(Ae (win ((Be c (h:Int):Nat):Int) 1 (Ap y8)) 417 ⟨(h:Int), -1⟩)]):=by unfold DD;simp only[e0];simp[h178,h183,h191]
   exact⟨congrArg (fun t=>Ending.returned (Value.agg (Ai.arr t))) eC.symm,BC hw229⟩
  have hd230:=Jn h183
  refine BQ 0 5 [] [[o0,(ov (.bool false)),o0,o0]] [Value.bool (win y8.Words 1 16)=Value.bool false] [(1,Ac h),(AC z),(7,i6 (Ap y8)),(Fp h c),(Dh h c),(40,.bool false),(41,Ac h)] rfl ⟨(congrArg Value.bool (Bool.eq_false_iff.2 h183)),Ag⟩ ?_
  refine Bz 93 #[(Ac h)] (some 42) (.agg #[(Ac h),i6 (-1)]) (fun w231 hw231=>Cm w231 (h:Int)) (fun n232 (hn233:n181≤n232) => ?_)
  refine Dz [1,4,7,8,9,40,42] [(1,Ac h),(AC z),(7,i6 (Ap y8)),(Fp h c),(Dh h c),(40,.bool false),(PP h)] ?_
  refine Bz 62 #[.bool false,i6 415,.agg #[(Ac h),i6 (-1)]] (some 43) (.agg (Ai.arr (Ae false 415 ⟨(h:Int), -1⟩))) (fun w234 hw234=>AQ w234 (hL.ext (hw234.ext rfl)) false 415 (h:Int) (-1)) (fun n235 (hn236:n232≤n235) => ?_)
  refine Dz [1,4,7,8,9,43] [(1,Ac h),(AC z),(7,i6 (Ap y8)),(Fp h c),(Dh h c),(D6 h)] ?_
  by_cases h237:(((Jp c (h:Int):Nat):Int):Int)=1
  ·refine BQ 0 3 [] [[o0,oT,o0]] [ET ((Jp c (h:Int):Nat):Int) 1] [(1,Ac h),(AC z),(7,i6 (Ap y8)),(Dh h c),(D6 h),(45,.bool true),(46,Ac h)] rfl ⟨et,Ag⟩ ?_
   refine Bz 93 #[(Ac h)] (some 47) (.agg #[(Ac h),i6 (-1)]) (fun w238 hw238=>Cm w238 (h:Int)) (fun n239 (hn240:n235≤n239) => ?_)
   refine Dz [1,4,7,9,43,45,47] [(1,Ac h),(AC z),(7,i6 (Ap y8)),(Dh h c),(D6 h),(45,.bool true),(JE h)] ?_
   refine Bz 62 #[.bool true,i6 416,.agg #[(Ac h),i6 (-1)]] (some 48) (.agg (Ai.arr (Ae true 416 ⟨(h:Int), -1⟩))) (fun w241 hw241=>AQ w241 (hL.ext (hw241.ext rfl)) true 416 (h:Int) (-1)) (fun n242 (hn243:n239≤n242) => ?_)
   refine BQ 0 2 [] [[o0,o0]] [] [(1,Ac h),(AC z),(D6 h),(He h),(JH h c),(50,i6 (Ap y8))] rfl Ag ?_
   refine Bz 63 #[i6 ((Be c (h:Int):Nat):Int),i6 1,i6 (Ap y8)] (some 51) (.bool (win ((Be c (h:Int):Nat):Int) 1 (Ap y8))) (fun w244 hw244=>Bl w244 ((Be c (h:Int):Nat):Int) 1 (Ap y8)) (fun n245 (hn246:n242≤n245) => ?_)
   refine BQ 0 1 [] [[o0]] [] [(AC z),(D6 h),(He h),(FP y8 h c),(52,Ac h)] rfl Ag ?_
   refine Bz 93 #[(Ac h)] (some 53) (.agg #[(Ac h),i6 (-1)]) (fun w247 hw247=>Cm w247 (h:Int)) (fun n248 (hn249:n245≤n248) => ?_)
   refine Dz [4,43,48,51,53] [(AC z),(D6 h),(He h),(FP y8 h c),(JI h)] ?_
   refine Bz 62 #[.bool (win ((Be c (h:Int):Nat):Int) 1 (Ap y8)),i6 417,.agg #[(Ac h),i6 (-1)]] (some 54) (.agg (Ai.arr (Ae (win ((Be c (h:Int):Nat):Int) 1 (Ap y8)) 417 ⟨(h:Int), -1⟩))) (fun w250 hw250=>AQ w250 (hL.ext (hw250.ext rfl)) (win ((Be c (h:Int):Nat):Int) 1 (Ap y8)) 417 (h:Int) (-1)) (fun n251 (hn252:n248≤n251) => ?_)
   refine FD 0 1 [] [[o0]] [] [(AC z),(55,.slice (some ⟨n251,0,none⟩) 3 3)] ⟨w,n251+1,[(Ak w),(En c z),(Gi z),(Eu y8 z),(YQ y8 h c n251)]⟩ rfl Ag ?_
   refine Bz 91 #[.slice (some ⟨n251,0,none⟩) 3 3] (some 56) (.agg (Ai.arr (AV [(Ae false 415 ⟨(h:Int), -1⟩),(Ae true 416 ⟨(h:Int), -1⟩),(Ae (win ((Be c (h:Int):Nat):Int) 1 (Ap y8)) 417 ⟨(h:Int), -1⟩)]))) (fun w253 hw253=>CE w253 (hL.ext (hw253.ext rfl)) ⟨some ⟨n251,0,none⟩,3,[(Ae false 415 ⟨(h:Int), -1⟩),(Ae true 416 ⟨(h:Int), -1⟩),(Ae (win ((Be c (h:Int):Nat):Int) 1 (Ap y8)) 417 ⟨(h:Int), -1⟩)]⟩ (Dy hw253 (i:=4) [(Ae false 415 ⟨(h:Int), -1⟩),(Ae true 416 ⟨(h:Int), -1⟩),(Ae (win ((Be c (h:Int):Nat):Int) 1 (Ap y8)) 417 ⟨(h:Int), -1⟩)]) (show 3≤1000 by decide)) (fun n254 (hn255:n251+1≤n254) => ?_)
   refine FD 3 0 [] [[(an 3 2)]] [Qb (z+1),Qb (z+1),Qb (z+1)] [(AC z)] ⟨w,n254,[(Ak w),(En c z),(TQ y8 h c z),(Eu y8 z),(YQ y8 h c n251)]⟩ rfl ⟨rfl,rfl,rfl,Ag⟩ ?_
   refine AX [.at 2,.at 2,.at 2] [Qb (z+1),Qb (z+1),Qb (z+1)] (.agg #[i6 ((AV [(Ae false 415 ⟨(h:Int), -1⟩),(Ae true 416 ⟨(h:Int), -1⟩),(Ae (win ((Be c (h:Int):Nat):Int) 1 (Ap y8)) 417 ⟨(h:Int), -1⟩)]).e),i6 ((AV [(Ae false 415 ⟨(h:Int), -1⟩),(Ae true 416 ⟨(h:Int), -1⟩),(Ae (win ((Be c (h:Int):Nat):Int) 1 (Ap y8)) 417 ⟨(h:Int), -1⟩)]).Af.First),i6 ((AV [(Ae false 415 ⟨(h:Int), -1⟩),(Ae true 416 ⟨(h:Int), -1⟩),(Ae (win ((Be c (h:Int):Nat):Int) 1 (Ap y8)) 417 ⟨(h:Int), -1⟩)]).Af.Second)]) ⟨rfl,rfl,rfl,Ag⟩ ?_
   intro w256 hw256
   have e0:MB c h=y8:=hy8.symm
   have eC:DD c h=(AV [(Ae false 415 ⟨(h:Int), -1⟩),(Ae true 416 ⟨(h:Int), -1⟩),(Ae (win ((Be c (h:Int):Nat):Int) 1 (Ap y8)) 417 ⟨(h:Int), -1⟩)]):=by unfold DD;simp only[e0];simp[h178,h183,h237]
   exact⟨congrArg (fun t=>Ending.returned (Value.agg (Ai.arr t))) eC.symm,BC hw256⟩
  refine BQ 0 3 [] [[o0,oF,o0]] [EF ((Jp c (h:Int):Nat):Int) 1] [(1,Ac h),(AC z),(7,i6 (Ap y8)),(Dh h c),(D6 h),(45,.bool false),(46,Ac h)] rfl ⟨ef,Ag⟩ ?_
  refine Bz 93 #[(Ac h)] (some 47) (.agg #[(Ac h),i6 (-1)]) (fun w257 hw257=>Cm w257 (h:Int)) (fun n258 (hn259:n235≤n258) => ?_)
  refine Dz [1,4,7,9,43,45,47] [(1,Ac h),(AC z),(7,i6 (Ap y8)),(Dh h c),(D6 h),(45,.bool false),(JE h)] ?_
  refine Bz 62 #[.bool false,i6 416,.agg #[(Ac h),i6 (-1)]] (some 48) (.agg (Ai.arr (Ae false 416 ⟨(h:Int), -1⟩))) (fun w260 hw260=>AQ w260 (hL.ext (hw260.ext rfl)) false 416 (h:Int) (-1)) (fun n261 (hn262:n258≤n261) => ?_)
  refine BQ 0 2 [] [[o0,o0]] [] [(1,Ac h),(AC z),(D6 h),(Hf h),(JH h c),(50,i6 (Ap y8))] rfl Ag ?_
  refine Bz 63 #[i6 ((Be c (h:Int):Nat):Int),i6 1,i6 (Ap y8)] (some 51) (.bool (win ((Be c (h:Int):Nat):Int) 1 (Ap y8))) (fun w263 hw263=>Bl w263 ((Be c (h:Int):Nat):Int) 1 (Ap y8)) (fun n264 (hn265:n261≤n264) => ?_)
  refine BQ 0 1 [] [[o0]] [] [(AC z),(D6 h),(Hf h),(FP y8 h c),(52,Ac h)] rfl Ag ?_
  refine Bz 93 #[(Ac h)] (some 53) (.agg #[(Ac h),i6 (-1)]) (fun w266 hw266=>Cm w266 (h:Int)) (fun n267 (hn268:n264≤n267) => ?_)
  refine Dz [4,43,48,51,53] [(AC z),(D6 h),(Hf h),(FP y8 h c),(JI h)] ?_
  refine Bz 62 #[.bool (win ((Be c (h:Int):Nat):Int) 1 (Ap y8)),i6 417,.agg #[(Ac h),i6 (-1)]] (some 54) (.agg (Ai.arr (Ae (win ((Be c (h:Int):Nat):Int) 1 (Ap y8)) 417 ⟨(h:Int), -1⟩))) (fun w269 hw269=>AQ w269 (hL.ext (hw269.ext rfl)) (win ((Be c (h:Int):Nat):Int) 1 (Ap y8)) 417 (h:Int) (-1)) (fun n270 (hn271:n267≤n270) => ?_)
  refine FD 0 1 [] [[o0]] [] [(AC z),(55,.slice (some ⟨n270,0,none⟩) 3 3)] ⟨w,n270+1,[(Ak w),(En c z),(Gi z),(Eu y8 z),(Zg y8 h c n270)]⟩ rfl Ag ?_
  refine Bz 91 #[.slice (some ⟨n270,0,none⟩) 3 3] (some 56) (.agg (Ai.arr (AV [(Ae false 415 ⟨(h:Int), -1⟩),(Ae false 416 ⟨(h:Int), -1⟩),(Ae (win ((Be c (h:Int):Nat):Int) 1 (Ap y8)) 417 ⟨(h:Int), -1⟩)]))) (fun w272 hw272=>CE w272 (hL.ext (hw272.ext rfl)) ⟨some ⟨n270,0,none⟩,3,[(Ae false 415 ⟨(h:Int), -1⟩),(Ae false 416 ⟨(h:Int), -1⟩),(Ae (win ((Be c (h:Int):Nat):Int) 1 (Ap y8)) 417 ⟨(h:Int), -1⟩)]⟩ (Dy hw272 (i:=4) [(Ae false 415 ⟨(h:Int), -1⟩),(Ae false 416 ⟨(h:Int), -1⟩),(Ae (win ((Be c (h:Int):Nat):Int) 1 (Ap y8)) 417 ⟨(h:Int), -1⟩)]) (show 3≤1000 by decide)) (fun n273 (hn274:n270+1≤n273) => ?_)
  refine FD 3 0 [] [[(an 3 2)]] [Qb (z+1),Qb (z+1),Qb (z+1)] [(AC z)] ⟨w,n273,[(Ak w),(En c z),(Tu y8 h c z),(Eu y8 z),(Zg y8 h c n270)]⟩ rfl ⟨rfl,rfl,rfl,Ag⟩ ?_
  refine AX [.at 2,.at 2,.at 2] [Qb (z+1),Qb (z+1),Qb (z+1)] (.agg #[i6 ((AV [(Ae false 415 ⟨(h:Int), -1⟩),(Ae false 416 ⟨(h:Int), -1⟩),(Ae (win ((Be c (h:Int):Nat):Int) 1 (Ap y8)) 417 ⟨(h:Int), -1⟩)]).e),i6 ((AV [(Ae false 415 ⟨(h:Int), -1⟩),(Ae false 416 ⟨(h:Int), -1⟩),(Ae (win ((Be c (h:Int):Nat):Int) 1 (Ap y8)) 417 ⟨(h:Int), -1⟩)]).Af.First),i6 ((AV [(Ae false 415 ⟨(h:Int), -1⟩),(Ae false 416 ⟨(h:Int), -1⟩),(Ae (win ((Be c (h:Int):Nat):Int) 1 (Ap y8)) 417 ⟨(h:Int), -1⟩)]).Af.Second)]) ⟨rfl,rfl,rfl,Ag⟩ ?_
  intro w275 hw275
  have e0:MB c h=y8:=hy8.symm
  have eC:DD c h=(AV [(Ae false 415 ⟨(h:Int), -1⟩),(Ae false 416 ⟨(h:Int), -1⟩),(Ae (win ((Be c (h:Int):Nat):Int) 1 (Ap y8)) 417 ⟨(h:Int), -1⟩)]):=by unfold DD;simp only[e0];simp[h178,h183,h237]
  exact⟨congrArg (fun t=>Ending.returned (Value.agg (Ai.arr t))) eC.symm,BC hw275⟩
 have hd276:=Jn h178
 refine BQ 0 9 [] [[(ov (.bool false)),o0,o0,o0,o0]] [Value.bool (win y8.Kind 1 2)=Value.bool false] [(1,Ac h),(AC z),(7,i6 (Ap y8)),(Fp h c),(Dh h c),(40,.bool false),(41,Ac h)] rfl ⟨(congrArg Value.bool (Bool.eq_false_iff.2 h178)),Ag⟩ ?_
 refine Bz 93 #[(Ac h)] (some 42) (.agg #[(Ac h),i6 (-1)]) (fun w277 hw277=>Cm w277 (h:Int)) (fun n278 (hn279:n176≤n278) => ?_)
 refine Dz [1,4,7,8,9,40,42] [(1,Ac h),(AC z),(7,i6 (Ap y8)),(Fp h c),(Dh h c),(40,.bool false),(PP h)] ?_
 refine Bz 62 #[.bool false,i6 415,.agg #[(Ac h),i6 (-1)]] (some 43) (.agg (Ai.arr (Ae false 415 ⟨(h:Int), -1⟩))) (fun w280 hw280=>AQ w280 (hL.ext (hw280.ext rfl)) false 415 (h:Int) (-1)) (fun n281 (hn282:n278≤n281) => ?_)
 refine Dz [1,4,7,8,9,43] [(1,Ac h),(AC z),(7,i6 (Ap y8)),(Fp h c),(Dh h c),(D6 h)] ?_
 by_cases h283:(((Jp c (h:Int):Nat):Int):Int)=1
 ·refine BQ 0 3 [] [[o0,oT,o0]] [ET ((Jp c (h:Int):Nat):Int) 1] [(1,Ac h),(AC z),(7,i6 (Ap y8)),(Dh h c),(D6 h),(45,.bool true),(46,Ac h)] rfl ⟨et,Ag⟩ ?_
  refine Bz 93 #[(Ac h)] (some 47) (.agg #[(Ac h),i6 (-1)]) (fun w284 hw284=>Cm w284 (h:Int)) (fun n285 (hn286:n281≤n285) => ?_)
  refine Dz [1,4,7,9,43,45,47] [(1,Ac h),(AC z),(7,i6 (Ap y8)),(Dh h c),(D6 h),(45,.bool true),(JE h)] ?_
  refine Bz 62 #[.bool true,i6 416,.agg #[(Ac h),i6 (-1)]] (some 48) (.agg (Ai.arr (Ae true 416 ⟨(h:Int), -1⟩))) (fun w287 hw287=>AQ w287 (hL.ext (hw287.ext rfl)) true 416 (h:Int) (-1)) (fun n288 (hn289:n285≤n288) => ?_)
  refine BQ 0 2 [] [[o0,o0]] [] [(1,Ac h),(AC z),(D6 h),(He h),(JH h c),(50,i6 (Ap y8))] rfl Ag ?_
  refine Bz 63 #[i6 ((Be c (h:Int):Nat):Int),i6 1,i6 (Ap y8)] (some 51) (.bool (win ((Be c (h:Int):Nat):Int) 1 (Ap y8))) (fun w290 hw290=>Bl w290 ((Be c (h:Int):Nat):Int) 1 (Ap y8)) (fun n291 (hn292:n288≤n291) => ?_)
  refine BQ 0 1 [] [[o0]] [] [(AC z),(D6 h),(He h),(FP y8 h c),(52,Ac h)] rfl Ag ?_
  refine Bz 93 #[(Ac h)] (some 53) (.agg #[(Ac h),i6 (-1)]) (fun w293 hw293=>Cm w293 (h:Int)) (fun n294 (hn295:n291≤n294) => ?_)
  refine Dz [4,43,48,51,53] [(AC z),(D6 h),(He h),(FP y8 h c),(JI h)] ?_
  refine Bz 62 #[.bool (win ((Be c (h:Int):Nat):Int) 1 (Ap y8)),i6 417,.agg #[(Ac h),i6 (-1)]] (some 54) (.agg (Ai.arr (Ae (win ((Be c (h:Int):Nat):Int) 1 (Ap y8)) 417 ⟨(h:Int), -1⟩))) (fun w296 hw296=>AQ w296 (hL.ext (hw296.ext rfl)) (win ((Be c (h:Int):Nat):Int) 1 (Ap y8)) 417 (h:Int) (-1)) (fun n297 (hn298:n294≤n297) => ?_)
  refine FD 0 1 [] [[o0]] [] [(AC z),(55,.slice (some ⟨n297,0,none⟩) 3 3)] ⟨w,n297+1,[(Ak w),(En c z),(Gi z),(Eu y8 z),(XA y8 h c n297)]⟩ rfl Ag ?_
  refine Bz 91 #[.slice (some ⟨n297,0,none⟩) 3 3] (some 56) (.agg (Ai.arr (AV [(Ae false 415 ⟨(h:Int), -1⟩),(Ae true 416 ⟨(h:Int), -1⟩),(Ae (win ((Be c (h:Int):Nat):Int) 1 (Ap y8)) 417 ⟨(h:Int), -1⟩)]))) (fun w299 hw299=>CE w299 (hL.ext (hw299.ext rfl)) ⟨some ⟨n297,0,none⟩,3,[(Ae false 415 ⟨(h:Int), -1⟩),(Ae true 416 ⟨(h:Int), -1⟩),(Ae (win ((Be c (h:Int):Nat):Int) 1 (Ap y8)) 417 ⟨(h:Int), -1⟩)]⟩ (Dy hw299 (i:=4) [(Ae false 415 ⟨(h:Int), -1⟩),(Ae true 416 ⟨(h:Int), -1⟩),(Ae (win ((Be c (h:Int):Nat):Int) 1 (Ap y8)) 417 ⟨(h:Int), -1⟩)]) (show 3≤1000 by decide)) (fun n300 (hn301:n297+1≤n300) => ?_)
  refine FD 3 0 [] [[(an 3 2)]] [Qb (z+1),Qb (z+1),Qb (z+1)] [(AC z)] ⟨w,n300,[(Ak w),(En c z),(TQ y8 h c z),(Eu y8 z),(XA y8 h c n297)]⟩ rfl ⟨rfl,rfl,rfl,Ag⟩ ?_
  refine AX [.at 2,.at 2,.at 2] [Qb (z+1),Qb (z+1),Qb (z+1)] (.agg #[i6 ((AV [(Ae false 415 ⟨(h:Int), -1⟩),(Ae true 416 ⟨(h:Int), -1⟩),(Ae (win ((Be c (h:Int):Nat):Int) 1 (Ap y8)) 417 ⟨(h:Int), -1⟩)]).e),i6 ((AV [(Ae false 415 ⟨(h:Int), -1⟩),(Ae true 416 ⟨(h:Int), -1⟩),(Ae (win ((Be c (h:Int):Nat):Int) 1 (Ap y8)) 417 ⟨(h:Int), -1⟩)]).Af.First),i6 ((AV [(Ae false 415 ⟨(h:Int), -1⟩),(Ae true 416 ⟨(h:Int), -1⟩),(Ae (win ((Be c (h:Int):Nat):Int) 1 (Ap y8)) 417 ⟨(h:Int), -1⟩)]).Af.Second)]) ⟨rfl,rfl,rfl,Ag⟩ ?_
  intro w302 hw302
  have e0:MB c h=y8:=hy8.symm
  have eC:DD c h=(AV [(Ae false 415 ⟨(h:Int), -1⟩),(Ae true 416 ⟨(h:Int), -1⟩),(Ae (win ((Be c (h:Int):Nat):Int) 1 (Ap y8)) 417 ⟨(h:Int), -1⟩)]):=by unfold DD;simp only[e0];simp[h178,h283]
  exact⟨congrArg (fun t=>Ending.returned (Value.agg (Ai.arr t))) eC.symm,BC hw302⟩
 refine BQ 0 3 [] [[o0,oF,o0]] [EF ((Jp c (h:Int):Nat):Int) 1] [(1,Ac h),(AC z),(7,i6 (Ap y8)),(Dh h c),(D6 h),(45,.bool false),(46,Ac h)] rfl ⟨ef,Ag⟩ ?_
 refine Bz 93 #[(Ac h)] (some 47) (.agg #[(Ac h),i6 (-1)]) (fun w303 hw303=>Cm w303 (h:Int)) (fun n304 (hn305:n281≤n304) => ?_)
 refine Dz [1,4,7,9,43,45,47] [(1,Ac h),(AC z),(7,i6 (Ap y8)),(Dh h c),(D6 h),(45,.bool false),(JE h)] ?_
 refine Bz 62 #[.bool false,i6 416,.agg #[(Ac h),i6 (-1)]] (some 48) (.agg (Ai.arr (Ae false 416 ⟨(h:Int), -1⟩))) (fun w306 hw306=>AQ w306 (hL.ext (hw306.ext rfl)) false 416 (h:Int) (-1)) (fun n307 (hn308:n304≤n307) => ?_)
 refine BQ 0 2 [] [[o0,o0]] [] [(1,Ac h),(AC z),(D6 h),(Hf h),(JH h c),(50,i6 (Ap y8))] rfl Ag ?_
 refine Bz 63 #[i6 ((Be c (h:Int):Nat):Int),i6 1,i6 (Ap y8)] (some 51) (.bool (win ((Be c (h:Int):Nat):Int) 1 (Ap y8))) (fun w309 hw309=>Bl w309 ((Be c (h:Int):Nat):Int) 1 (Ap y8)) (fun n310 (hn311:n307≤n310) => ?_)
 refine BQ 0 1 [] [[o0]] [] [(AC z),(D6 h),(Hf h),(FP y8 h c),(52,Ac h)] rfl Ag ?_
 refine Bz 93 #[(Ac h)] (some 53) (.agg #[(Ac h),i6 (-1)]) (fun w312 hw312=>Cm w312 (h:Int)) (fun n313 (hn314:n310≤n313) => ?_)
 refine Dz [4,43,48,51,53] [(AC z),(D6 h),(Hf h),(FP y8 h c),(JI h)] ?_
 refine Bz 62 #[.bool (win ((Be c (h:Int):Nat):Int) 1 (Ap y8)),i6 417,.agg #[(Ac h),i6 (-1)]] (some 54) (.agg (Ai.arr (Ae (win ((Be c (h:Int):Nat):Int) 1 (Ap y8)) 417 ⟨(h:Int), -1⟩))) (fun w315 hw315=>AQ w315 (hL.ext (hw315.ext rfl)) (win ((Be c (h:Int):Nat):Int) 1 (Ap y8)) 417 (h:Int) (-1)) (fun n316 (hn317:n313≤n316) => ?_)
 refine FD 0 1 [] [[o0]] [] [(AC z),(55,.slice (some ⟨n316,0,none⟩) 3 3)] ⟨w,n316+1,[(Ak w),(En c z),(Gi z),(Eu y8 z),(Zr y8 h c n316)]⟩ rfl Ag ?_
 refine Bz 91 #[.slice (some ⟨n316,0,none⟩) 3 3] (some 56) (.agg (Ai.arr (AV [(Ae false 415 ⟨(h:Int), -1⟩),(Ae false 416 ⟨(h:Int), -1⟩),(Ae (win ((Be c (h:Int):Nat):Int) 1 (Ap y8)) 417 ⟨(h:Int), -1⟩)]))) (fun w318 hw318=>CE w318 (hL.ext (hw318.ext rfl)) ⟨some ⟨n316,0,none⟩,3,[(Ae false 415 ⟨(h:Int), -1⟩),(Ae false 416 ⟨(h:Int), -1⟩),(Ae (win ((Be c (h:Int):Nat):Int) 1 (Ap y8)) 417 ⟨(h:Int), -1⟩)]⟩ (Dy hw318 (i:=4) [(Ae false 415 ⟨(h:Int), -1⟩),(Ae false 416 ⟨(h:Int), -1⟩),(Ae (win ((Be c (h:Int):Nat):Int) 1 (Ap y8)) 417 ⟨(h:Int), -1⟩)]) (show 3≤1000 by decide)) (fun n319 (hn320:n316+1≤n319) => ?_)
 refine FD 3 0 [] [[(an 3 2)]] [Qb (z+1),Qb (z+1),Qb (z+1)] [(AC z)] ⟨w,n319,[(Ak w),(En c z),(Tu y8 h c z),(Eu y8 z),(Zr y8 h c n316)]⟩ rfl ⟨rfl,rfl,rfl,Ag⟩ ?_
 refine AX [.at 2,.at 2,.at 2] [Qb (z+1),Qb (z+1),Qb (z+1)] (.agg #[i6 ((AV [(Ae false 415 ⟨(h:Int), -1⟩),(Ae false 416 ⟨(h:Int), -1⟩),(Ae (win ((Be c (h:Int):Nat):Int) 1 (Ap y8)) 417 ⟨(h:Int), -1⟩)]).e),i6 ((AV [(Ae false 415 ⟨(h:Int), -1⟩),(Ae false 416 ⟨(h:Int), -1⟩),(Ae (win ((Be c (h:Int):Nat):Int) 1 (Ap y8)) 417 ⟨(h:Int), -1⟩)]).Af.First),i6 ((AV [(Ae false 415 ⟨(h:Int), -1⟩),(Ae false 416 ⟨(h:Int), -1⟩),(Ae (win ((Be c (h:Int):Nat):Int) 1 (Ap y8)) 417 ⟨(h:Int), -1⟩)]).Af.Second)]) ⟨rfl,rfl,rfl,Ag⟩ ?_
 intro w321 hw321
 have e0:MB c h=y8:=hy8.symm
 have eC:DD c h=(AV [(Ae false 415 ⟨(h:Int), -1⟩),(Ae false 416 ⟨(h:Int), -1⟩),(Ae (win ((Be c (h:Int):Nat):Int) 1 (Ap y8)) 417 ⟨(h:Int), -1⟩)]):=by unfold DD;simp only[e0];simp[h178,h283]
 exact⟨congrArg (fun t=>Ending.returned (Value.agg (Ai.arr t))) eC.symm,BC hw321⟩
end Go.Proofs.YtjdmhijaanmccaaDoor.Ad
