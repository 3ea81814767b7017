/- Packed: Lw, Lz, EngK, EngM, EngI, EngN, EngY, EngH, EngR, EngO, EngT, Fa, Fd, Fe, Fc, Ff, Lp. No conditions. -/
import Derived.Test.YtlhjneaafhoipaaPf2
import Derived.Laws.OwnMore
import Derived.Deep.Slices
import Derived.SizedLaws
import Derived.WideShapes
import Derived.DataReads
import Derived.Lib.SlBytesConst
set_option maxHeartbeats 4000000
namespace Go.Proofs.Ytlhjneaafhoipaa.Ly
open Go Go.Proofs.Ytlhjneaafhoipaa.Eng Go.Proofs.Ytlhjneaafhoipaa.Mem
set_option linter.unusedSimpArgs false
set_option linter.unusedVariables false
set_option maxRecDepth 100000
theorem max_is(x y:Int):(if y > x then y else x)=max x y:=by split <;> omega
theorem min_is(x y:Int):(if y<x then y else x)=min x y:=by split <;> omega
instance (c:Af)(at_:Int):Decidable (Gv c at_):=by unfold Gv;infer_instance
def IV(c:Af)(at_:Int):A7:=if BZ c=true then(if Gv c at_ then⟨0,0,0⟩else KL c at_)else⟨0,0,0⟩
def KN(c:Af)(at_:Int):Int:=if BZ c=true then(if Gv c at_ then 151 else 0)else 150
theorem Xj{c:Af}{at_:Int}(h:¬ BZ c=true):IV c at_=⟨0,0,0⟩∧KN c at_=150:=by unfold IV KN;rw[if_neg h,if_neg h];exact⟨rfl,rfl⟩
theorem TQ{c:Af}{at_:Int}(h:BZ c=true)(h2:Gv c at_):IV c at_=⟨0,0,0⟩∧KN c at_=151:=by unfold IV KN;rw[if_pos h,if_pos h,if_pos h2,if_pos h2];exact⟨rfl,rfl⟩
theorem Tu{c:Af}{at_:Int}(h:BZ c=true)(h2:¬ Gv c at_):IV c at_=KL c at_∧KN c at_=0:=by unfold IV KN;rw[if_pos h,if_pos h,if_neg h2,if_neg h2];exact⟨rfl,rfl⟩
theorem lpc_in{c:Af}(hf:Fine c){m:Nat}(h:m<(E8 c).length):Rq c (gd (E8 c) m):=pc_mem hf _ ((VB c).mem_iff.2 (by rw[DC h];exact List.getElem_mem h))
theorem Zl{F:Nat→Prop}{W:World}{c:Af}(hf:Fine c):∀ i,i<(E8 c).length→Ap.ok F W (gd (E8 c) i):=fun i hi=>by
 obtain⟨a1,a2,a3,a4,a5,a6,a7,a8,a9,a10, -⟩:=lpc_in hf hi
 exact⟨Ll a3 (by omega),Ll a5 (by omega),⟨Ll (by omega) (by omega),Ll a7 (by omega),Ll a9 (by omega)⟩⟩
theorem U1(w:World)(c:Af)(at_:Int)(hat:Fb .i64 at_)(hc:Af.ok Any w c):Calls Try.prog 6 #[.agg (Af.arr c),.int .i64 at_] w fun e w'=>e = .returned (.tuple #[.agg (A7.arr (IV c at_)),.int .i64 (KN c at_)])∧BN (fun _=>False) w w':=by
 by_cases h:BZ c=true
 ·refine(Z8 w c at_ hat hc h).mono ?_
  rintro e w' (⟨he,hb,hk⟩ | ⟨he,hb,hk⟩)
  ·rw[(TQ h hb).1,(TQ h hb).2];exact⟨he,hk⟩
  rw[(Tu h hb).1,(Tu h hb).2];exact⟨he,hk⟩
 refine(ZX w c at_ hc (Bool.eq_false_iff.2 h)).mono ?_
 rintro e w' ⟨he,hk⟩
 rw[(Xj h).1,(Xj h).2];exact⟨he,hk⟩
theorem own_hit{c:Af}{at_:Int}{m:Nat}(hm:m<(E8 c).length)(h0:∀ q,q<m→hit at_ (gd (E8 c) q)=false)(h:hit at_ (gd (E8 c) m)=true):KL c at_=(gd (E8 c) m).Au:=by
 unfold KL;rw[VE,RV hm h0 h]
theorem own_reg{c:Af}{at_:Int}(h0:∀ q,q<(E8 c).length→hit at_ (gd (E8 c) q)=false)(h:(Hw c (at_ / 16)).isSome=true):KL c at_=⟨1,TM c (at_ / 16),0⟩:=by
 unfold KL;rw[VE,Qj h0]
 unfold TM
 cases hr:Hw c (at_ / 16)with
 | none=>rw[hr]at h;cases h
 | some p=>rfl
theorem own_none{c:Af}{at_:Int}(h0:∀ q,q<(E8 c).length→hit at_ (gd (E8 c) q)=false)(h:¬ (Hw c (at_ / 16)).isSome=true):KL c at_=⟨0,0,0⟩:=by
 unfold KL;rw[VE,Qj h0]
 cases hr:Hw c (at_ / 16)with
 | none=>rfl
 | some p=>rw[hr]at h;exact absurd rfl h
section
variable (z:Nat)(w3:World)(lw3:Bj)(c:Af)(b14 o15 cp10:Nat)(ax9:Option Addr)(w w8:World)
abbrev Qd:=bk (z+1) #[i6 0,i6 0,i6 0] 36
abbrev PY:Ch:= .blk w3.heap.size (.cells (Bj.arr lw3) 31 (0,0)) true
abbrev Ov:=bk z (Af.arr c) 26
abbrev QJ:Dq:=(35,.slice (some ⟨b14,o15,none⟩) ((E8 c).length) cp10)
abbrev Lr:=(36,i6 (((E8 c).length:Nat):Int))
abbrev OG:Dq:=(35,.slice ax9 ((E8 c).length) cp10)
abbrev GH:=(4,pt (z+1))
abbrev QT:=[(Ak w),(Ov z c),(Qd z),(mid (z+2) w3),(PY w3 lw3),(mid (w3.heap.size+1) w8)]
end
theorem YX(w:World)(c:Af)(at_:Int)(hat:Fb .i64 at_)(hc:Af.ok Any w c):Calls Try.prog 9 #[.agg (Af.arr c),.int .i64 at_] w fun e w'=>e = .returned (.tuple #[.agg (A7.arr (IV c at_)),.int .i64 (KN c at_)])∧BN (fun _=>False) w w':=by
 obtain⟨z,hz⟩:∃ z,z=w.heap.size:=⟨_,rfl⟩
 refine BV (args:=[.agg (Af.arr c),i6 at_]) 68 ⟨w,z,[(Ak w)]⟩ Try.func9 rfl (by kernel_rfl) (by kernel_rfl) (Fv hz) ?_
 have hatl : -9223372036854775808≤at_∧at_≤9223372036854775807:=hat
 refine Eb [0,1] [(0,.agg (Af.arr c)),(1,i6 at_)] ?_
 refine q_c 6 1 [] [[o0,o0,o0],[(an 7 1)]] [Qb z,Qb z,Qb z,Qb z,Qb z,Qb z,Qb z] [(1,i6 at_),(2,pt z),(GH z),(13,.agg (Af.arr c))] ⟨w,z+2,[(Ak w),(Ov z c),(Qd z)]⟩ rfl ⟨rfl,rfl,rfl,rfl,rfl,rfl,rfl,Ae⟩ ?_
 refine l_call [] [] 11 #[.agg (Af.arr c)] (some 14) Ae ?_
 intro w1 hw1
 by_cases hok2:BZ c=true
 ·refine(Y6 w1 c (hc.ext (hw1.ext rfl) (fun _ h=>h)) hok2).mono ?_
  rintro e w3 ⟨lw3,rfl,hIw3,hLw3,hOw3,hkw3⟩
  have hfw3:=MW hok2;have hknw3:=hfw3.kn;have hEw3:=hIw3.fin;have hEbw3:=NG hfw3 _ (Nat.le_refl _);have hpnw3:=hfw3.pn
  rw[hw1.size]at hLw3 hOw3
  have hnw3:z+2≤w3.heap.size:=Dx hw1 hkw3
  refine⟨_,_,rfl,hw1.Lc hkw3, ?_⟩
  refine Hu 12 0 [0] [[o0,o0,o0,o0,(an 4 4),o0],[o0,o0]] [Qb w3.heap.size,Qb w3.heap.size,Qb w3.heap.size,Qb w3.heap.size] [(1,i6 at_),(2,pt z),(GH z),(6,pt w3.heap.size),(7,i6 0),(18,.bool false)] ⟨w,w3.heap.size+1,[(Ak w),(Ov z c),(Qd z),(mid (z+2) w3),(PY w3 lw3)]⟩ rfl ⟨rfl,rfl,rfl,rfl,Ae⟩ ?_
  by_cases h4:(at_:Int)<0
  ·refine A8 9 0 [1] [[o0,oT,o0,o0],[o0,(an 3 2),o0]] [BT ((at_:Int)<0),Qb (z+1),Qb (z+1),Qb (z+1)] [(GH z),(5,i6 151)] rfl ⟨bt,rfl,rfl,rfl,Ae⟩ ?_
   refine AZ [.at 2,.at 2,.at 2] [Qb (z+1),Qb (z+1),Qb (z+1)] (.tuple #[.agg #[i6 0,i6 0,i6 0],i6 151]) ⟨rfl,rfl,rfl,Ae⟩ ?_
   intro w5 hw5
   have hR:=TQ hok2 (show Gv c at_ from(by unfold Gv;omega))
   exact⟨by rw[hR.1,hR.2],Bg hw5⟩
  by_cases h6:(at_:Int)<16*(min (max c.Frames 0) 1024)
  ·refine A8 9 2 [0] [[o0,oF,o0,o0,o0,(a1 1),(ov (i6 (max c.Frames 0))),(ov (i6 (min (max c.Frames 0) 1024))),(ov (i6 (16*(min (max c.Frames 0) 1024)))),oF,o0],[(an 7 1),(an 4 4)]] [BF ((at_:Int)<0),Qb z,i6 (if(0:Int) > c.Frames then(0:Int)else c.Frames)=i6 (max c.Frames 0),i6 (if(1024:Int)<(max c.Frames 0)then(1024:Int)else max c.Frames 0)=i6 (min (max c.Frames 0) 1024),Wr ((16:Int)*(min (max c.Frames 0) 1024)) (16*(min (max c.Frames 0) 1024)),BF ((at_:Int)≥(16*(min (max c.Frames 0) 1024))),Qb z,Qb z,Qb z,Qb z,Qb z,Qb z,Qb z,Qb w3.heap.size,Qb w3.heap.size,Qb w3.heap.size,Qb w3.heap.size] [(1,i6 at_),(2,pt z),(GH z),(33,.agg (Af.arr c)),(34,.agg (Bj.arr lw3))] rfl ⟨bf,rfl,congrArg (Value.int .i64) (max_is _ _),congrArg (Value.int .i64) (min_is _ _),Be,bf,rfl,rfl,rfl,rfl,rfl,rfl,rfl,rfl,rfl,rfl,rfl,Ae⟩ ?_
   refine l_call [] [] 18 #[.agg (Af.arr c),.agg (Bj.arr lw3)] (some 35) Ae ?_
   intro w7 hw7
   refine(YK w7 c lw3 (hc.ext (hw7.ext rfl) (fun _ h=>h)) (hLw3.ext (hw7.Ua 3) (fun _ _=>trivial)) hok2 hIw3).mono ?_
   rintro e w8 ⟨ax9,cp10,rfl,hSw8,hkw8⟩
   have hnw8:w3.heap.size+1≤w8.heap.size:=Dx hw7 hkw8
   rw[hw7.size]at hSw8
   refine⟨_,_,rfl,hw7.Lc hkw8, ?_⟩
   have hfine:=hfw3;have hpll:=VM hfine
   refine Di 3 0 [] [[o0,o0]] [] [(1,i6 at_),(2,pt z),(GH z),(OG c cp10 ax9),(Lr c),(37,i6 0)] rfl Ae ?_
   refine Ce (fun m a w'=>∃ (n12:Nat) (mm:Nat),m=(E8 c).length - mm∧w8.heap.size≤n12∧(mm≤(E8 c).length)∧(∀ q,q<mm→hit at_ (gd (E8 c) q)=false)∧St 68 [(1,i6 at_),(2,pt z),(GH z),(OG c cp10 ax9),(Lr c),(37,Ad mm)] [] ⟨w,n12,(QT z w3 lw3 c w w8)⟩ a w') ((E8 c).length - 0) ?_ ?_
   ·intro a w' hs;exact⟨w8.heap.size,0,rfl,Nat.le_refl _,Nat.zero_le _,fun q hq=>absurd hq (Nat.not_lt_zero q),hs⟩
   rintro m a w' ⟨n12,mm,rfl,hn11,hkmm,hm0,hs⟩
   refine(?_:G Try.prog 68 [(1,i6 at_),(2,pt z),(GH z),(OG c cp10 ax9),(Lr c),(37,Ad mm)] [] ⟨w,n12,(QT z w3 lw3 c w w8)⟩ _ _ _) a w' hs
   clear hs a w'
   refine CP ?_
   by_cases h13:(mm:Int)<(((E8 c).length:Nat):Int)
   ·refine A8 10 0 [1] [[oT]] [BT ((mm:Int)<(((E8 c).length:Nat):Int))] [(1,i6 at_),(2,pt z),(GH z),(OG c cp10 ax9),(Lr c),(37,Ad mm),(38,.bool true)] rfl ⟨bt,Ae⟩ ?_
    obtain⟨b14,o15,ha16,hF18,hc17⟩:=((⟨hSw8,Zl hfine⟩:F8 Ap.cells 5 Ap.ok _ _ _)).1.all (show 0<(E8 c).length by omega)
    replace ha16:ax9=some ⟨b14,o15,none⟩:=ha16
    refine IZ [(1,i6 at_),(2,pt z),(GH z),(QJ c b14 o15 cp10),(Lr c),(37,Ad mm),(38,.bool true)] (by(try dsimp only[Qd,PY,Ov,QJ,Lr,OG,GH,QT]);simp only[ha16]) ?_
    have hc19:=hc17 mm (show mm<(E8 c).length by omega)
    have he20:=((⟨hSw8,Zl hfine⟩:F8 Ap.cells 5 Ap.ok _ _ _)).2 mm (show mm<(E8 c).length by omega)
    obtain⟨y21,hy21⟩:∃ y_,y_=gd (⟨ax9,cp10,E8 c⟩:Sl Ap).xs mm:=⟨_,rfl⟩
    rw[←hy21]at he20 hc19
    have hPc:=lpc_in hfine (show mm<(E8 c).length by omega);rw[←hy21]at hPc;unfold Rq at hPc
    refine q_c 4 0 [] [[(oi mm),(oa [.via 5 (i6 y21.At),.via 5 (i6 y21.Size),.via 5 (i6 y21.Au.Kind),.via 5 (i6 y21.Au.Index),.via 5 (i6 y21.Au.Port)]),o0,(an 5 6)]] [BI mm,mm<(E8 c).length,Bq,∀ w',Ch.holds (mid (w3.heap.size+1) w8) w'→w'.cell? ⟨b14,o15+mm*5,none⟩=some (i6 y21.At),∀ w',Ch.holds (mid (w3.heap.size+1) w8) w'→w'.cell? ⟨b14,o15+mm*5+1,none⟩=some (i6 y21.Size),∀ w',Ch.holds (mid (w3.heap.size+1) w8) w'→w'.cell? ⟨b14,o15+mm*5+2,none⟩=some (i6 y21.Au.Kind),∀ w',Ch.holds (mid (w3.heap.size+1) w8) w'→w'.cell? ⟨b14,o15+mm*5+3,none⟩=some (i6 y21.Au.Index),∀ w',Ch.holds (mid (w3.heap.size+1) w8) w'→w'.cell? ⟨b14,o15+mm*5+4,none⟩=some (i6 y21.Au.Port),Qb n12,Qb n12,Qb n12,Qb n12,Qb n12] [(1,i6 at_),(2,pt z),(GH z),(QJ c b14 o15 cp10),(Lr c),(37,Ad mm),(9,pt n12)] ⟨w,n12+1,[(Ak w),(Ov z c),(Qd z),(mid (z+2) w3),(PY w3 lw3),(mid (w3.heap.size+1) w8),(bk n12 (Ap.arr y21) 81)]⟩ rfl ⟨rfl,(by omega),rfl,EH hF18 (hc19 0 _ rfl),EH hF18 (hc19 1 _ rfl),EH hF18 (hc19 2 _ rfl),EH hF18 (hc19 3 _ rfl),EH hF18 (hc19 4 _ rfl),rfl,rfl,rfl,rfl,rfl,Ae⟩ ?_
    by_cases h22:(at_:Int)<y21.At
    ·refine A8 9 0 [0] [[o0,o0,(a1 6),oF,o0,o0],[(ov (i6 ((mm+1:Nat):Int))),o0]] [Qb n12,BF ((at_:Int)≥y21.At),Wr ((mm:Int)+1) (((mm+1:Nat):Int))] [(1,i6 at_),(2,pt z),(GH z),(QJ c b14 o15 cp10),(Lr c),(37,i6 ((mm+1:Nat):Int))] rfl ⟨rfl,bf,Be,Ae⟩ ?_
     refine BO [0,1,2,3,4,5] (QT z w3 lw3 c w w8) rfl rfl ?_
     refine EP [1,2,4,35,36,37] [(1,i6 at_),(2,pt z),(GH z),(OG c cp10 ax9),(Lr c),(37,i6 ((mm+1:Nat):Int))] (by(try dsimp only[Qd,PY,Ov,QJ,Lr,OG,GH,QT]);simp only[ha16];rfl) ?_
     refine Bz (fun a w' hs=>⟨(E8 c).length - (mm+1),by omega,(n12+1),(mm+1),rfl,by omega,by omega,upto hm0 (by rw[←hy21];exact decide_eq_false (by omega)),hs⟩)
    by_cases h23:(at_:Int)<y21.At+y21.Size
    ·refine q_c 9 0 [1] [[o0,o0,(a1 6),oT,o0,o0,o0,(a1 6),o0,(a1 6),(ov (i6 (y21.At+y21.Size))),oT,o0],[o0,(an 3 6),(an 3 2),o0]] [Qb n12,BT ((at_:Int)≥y21.At),Qb n12,Qb n12,Wr ((y21.At:Int)+y21.Size) (y21.At+y21.Size),BT ((at_:Int)<(y21.At+y21.Size)),Qb n12,Qb n12,Qb n12,Qb (z+1),Qb (z+1),Qb (z+1)] [(GH z),(5,i6 0)] ⟨w,n12+1,[(Ak w),(Ov z c),(bk (z+1) #[i6 y21.Au.Kind,i6 y21.Au.Index,i6 y21.Au.Port] 36),(mid (z+2) w3),(PY w3 lw3),(mid (w3.heap.size+1) w8),(bk n12 (Ap.arr y21) 81)]⟩ rfl ⟨rfl,bt,rfl,rfl,Be,bt,rfl,rfl,rfl,rfl,rfl,rfl,Ae⟩ ?_
     refine AZ [.at 2,.at 2,.at 2] [Qb (z+1),Qb (z+1),Qb (z+1)] (.tuple #[.agg #[i6 y21.Au.Kind,i6 y21.Au.Index,i6 y21.Au.Port],i6 0]) ⟨rfl,rfl,rfl,Ae⟩ ?_
     intro w24 hw24
     have hR:=Tu hok2 (show ¬ Gv c at_ from(by unfold Gv;omega))
     rw[own_hit (m:=mm) (by omega) hm0 (by rw[←hy21];exact decide_eq_true ⟨by omega,by omega⟩),←hy21]at hR
     exact⟨by rw[hR.1,hR.2],Bg hw24⟩
    refine A8 9 0 [0] [[o0,o0,(a1 6),oT,o0,o0,o0,(a1 6),o0,(a1 6),(ov (i6 (y21.At+y21.Size))),oF,o0],[(ov (i6 ((mm+1:Nat):Int))),o0]] [Qb n12,BT ((at_:Int)≥y21.At),Qb n12,Qb n12,Wr ((y21.At:Int)+y21.Size) (y21.At+y21.Size),BF ((at_:Int)<(y21.At+y21.Size)),Wr ((mm:Int)+1) (((mm+1:Nat):Int))] [(1,i6 at_),(2,pt z),(GH z),(QJ c b14 o15 cp10),(Lr c),(37,i6 ((mm+1:Nat):Int))] rfl ⟨rfl,bt,rfl,rfl,Be,bf,Be,Ae⟩ ?_
    refine BO [0,1,2,3,4,5] (QT z w3 lw3 c w w8) rfl rfl ?_
    refine EP [1,2,4,35,36,37] [(1,i6 at_),(2,pt z),(GH z),(OG c cp10 ax9),(Lr c),(37,i6 ((mm+1:Nat):Int))] (by(try dsimp only[Qd,PY,Ov,QJ,Lr,OG,GH,QT]);simp only[ha16];rfl) ?_
    refine Bz (fun a w' hs=>⟨(E8 c).length - (mm+1),by omega,(n12+1),(mm+1),rfl,by omega,by omega,upto hm0 (by rw[←hy21];exact decide_eq_false (by omega)),hs⟩)
   refine A8 13 3 [0] [[oF],[(an 7 1),o0,(ov (i6 (at_ / 16)))]] [BF ((mm:Int)<(((E8 c).length:Nat):Int)),Qb z,Qb z,Qb z,Qb z,Qb z,Qb z,Qb z,Wr (Int.tdiv (at_) 16) (at_ / 16)] [(GH z),(58,.agg (Af.arr c)),(60,i6 (at_ / 16))] rfl ⟨bf,rfl,rfl,rfl,rfl,rfl,rfl,rfl,congrArg (Value.int .i64) (I5 (by omega) (by omega) (by omega)),Ae⟩ ?_
   refine H5 19 #[.agg (Af.arr c),i6 (at_ / 16)] (some 61) (.tuple #[i6 (TM c (at_ / 16)),.bool ((Hw c (at_ / 16)).isSome)]) (fun w25 hw25=>Yc w25 c (at_ / 16) (hc.ext (hw25.ext rfl) (fun _ h=>h)) hok2) (fun n26 (hn27:n12≤n26) => ?_)
   refine Di 6 0 [] [[o0,o0,o0,o0,o0],[o0]] [] [(GH z),(10,i6 (TM c (at_ / 16))),(64,.bool ((Hw c (at_ / 16)).isSome))] rfl Ae ?_
   by_cases h28:((Hw c (at_ / 16)).isSome)=true
   ·refine q_c 6 0 [3] [[o0,o0,(an 3 2),o0]] [Value.bool ((Hw c (at_ / 16)).isSome)=Value.bool true,Qb (z+1),Qb (z+1),Qb (z+1)] [(GH z),(5,i6 0)] ⟨w,n26,[(Ak w),(Ov z c),(bk (z+1) #[i6 1,i6 (TM c (at_ / 16)),i6 0] 36),(mid (z+2) w3),(PY w3 lw3),(mid (w3.heap.size+1) w8)]⟩ rfl ⟨(congrArg Value.bool h28),rfl,rfl,rfl,Ae⟩ ?_
    refine AZ [.at 2,.at 2,.at 2] [Qb (z+1),Qb (z+1),Qb (z+1)] (.tuple #[.agg #[i6 1,i6 (TM c (at_ / 16)),i6 0],i6 0]) ⟨rfl,rfl,rfl,Ae⟩ ?_
    intro w29 hw29
    have hR:=Tu hok2 (show ¬ Gv c at_ from(by unfold Gv;omega))
    rw[own_reg (fun q hq=>hm0 q (by omega)) h28]at hR
    exact⟨by rw[hR.1,hR.2],Bg hw29⟩
   refine A8 8 0 [2] [[o0,(an 3 2),o0]] [Value.bool ((Hw c (at_ / 16)).isSome)=Value.bool false,Qb (z+1),Qb (z+1),Qb (z+1)] [(GH z),(5,i6 0)] rfl ⟨(congrArg Value.bool (Bool.eq_false_iff.2 h28)),rfl,rfl,rfl,Ae⟩ ?_
   refine AZ [.at 2,.at 2,.at 2] [Qb (z+1),Qb (z+1),Qb (z+1)] (.tuple #[.agg #[i6 0,i6 0,i6 0],i6 0]) ⟨rfl,rfl,rfl,Ae⟩ ?_
   intro w30 hw30
   have hR:=Tu hok2 (show ¬ Gv c at_ from(by unfold Gv;omega))
   rw[own_none (fun q hq=>hm0 q (by omega)) h28]at hR
   exact⟨by rw[hR.1,hR.2],Bg hw30⟩
  refine A8 9 0 [1] [[o0,oF,o0,o0,o0,(a1 1),(ov (i6 (max c.Frames 0))),(ov (i6 (min (max c.Frames 0) 1024))),(ov (i6 (16*(min (max c.Frames 0) 1024)))),oT,o0],[o0,(an 3 2),o0]] [BF ((at_:Int)<0),Qb z,i6 (if(0:Int) > c.Frames then(0:Int)else c.Frames)=i6 (max c.Frames 0),i6 (if(1024:Int)<(max c.Frames 0)then(1024:Int)else max c.Frames 0)=i6 (min (max c.Frames 0) 1024),Wr ((16:Int)*(min (max c.Frames 0) 1024)) (16*(min (max c.Frames 0) 1024)),BT ((at_:Int)≥(16*(min (max c.Frames 0) 1024))),Qb (z+1),Qb (z+1),Qb (z+1)] [(GH z),(5,i6 151)] rfl ⟨bf,rfl,congrArg (Value.int .i64) (max_is _ _),congrArg (Value.int .i64) (min_is _ _),Be,bt,rfl,rfl,rfl,Ae⟩ ?_
  refine AZ [.at 2,.at 2,.at 2] [Qb (z+1),Qb (z+1),Qb (z+1)] (.tuple #[.agg #[i6 0,i6 0,i6 0],i6 151]) ⟨rfl,rfl,rfl,Ae⟩ ?_
  intro w31 hw31
  have hR:=TQ hok2 (show Gv c at_ from(by unfold Gv;omega))
  exact⟨by rw[hR.1,hR.2],Bg hw31⟩
 refine(Zp w1 c (hc.ext (hw1.ext rfl) (fun _ h=>h)) (Bool.eq_false_iff.2 hok2)).mono ?_
 rintro e w32 ⟨rfl,hkw32⟩
 have hnw32:z+2≤w32.heap.size:=Dx hw1 hkw32
 refine⟨_,_,rfl,hw1.keeps hkw32, ?_⟩
 refine Hu 13 0 [1] [[o0,o0,o0,o0,(an 4 3),o0],[o0,o0],[o0,o0,(an 3 2),o0]] [Qb w32.heap.size,Qb w32.heap.size,Qb w32.heap.size,Qb w32.heap.size,Qb (z+1),Qb (z+1),Qb (z+1)] [(GH z),(5,i6 150)] ⟨w,w32.heap.size+1,[(Ak w),(Ov z c),(Qd z),(.blk w32.heap.size (.cells #[i6 0,.slice none 0 0,.slice none 0 0,i6 0] 31 (0,0)) true)]⟩ rfl ⟨rfl,rfl,rfl,rfl,rfl,rfl,rfl,Ae⟩ ?_
 refine AZ [.at 2,.at 2,.at 2] [Qb (z+1),Qb (z+1),Qb (z+1)] (.tuple #[.agg #[i6 0,i6 0,i6 0],i6 150]) ⟨rfl,rfl,rfl,Ae⟩ ?_
 intro w33 hw33
 have hR:=Xj (at_:=at_) hok2
 exact⟨by rw[hR.1,hR.2],Bg hw33⟩
def Gi(c:Af):Int:=if BZ c=true then C9 c c.Aa.xs.length - c.Kernel else 0
def errOf(c:Af):Int:=if BZ c=true then 0 else 150
theorem ZA(w:World)(c:Af)(hc:Af.ok Any w c):Calls Try.prog 10 #[.agg (Af.arr c)] w fun e w'=>e = .returned (.tuple #[.int .i64 (Gi c),.int .i64 (errOf c)])∧BN (fun _=>False) w w':=by
 obtain⟨z,hz⟩:∃ z,z=w.heap.size:=⟨_,rfl⟩
 refine BV (args:=[.agg (Af.arr c)]) 19 ⟨w,z,[(Ak w)]⟩ Try.func10 rfl (by kernel_rfl) (by kernel_rfl) (Fv hz) ?_
 refine Eb [0] [(0,.agg (Af.arr c))] ?_
 refine q_c 6 1 [] [[o0,o0,o0],[(an 7 1)]] [Qb z,Qb z,Qb z,Qb z,Qb z,Qb z,Qb z] [(1,pt z),(7,.agg (Af.arr c))] ⟨w,z+1,[(Ak w),(bk z (Af.arr c) 26)]⟩ rfl ⟨rfl,rfl,rfl,rfl,rfl,rfl,rfl,Ae⟩ ?_
 refine l_call [] [] 11 #[.agg (Af.arr c)] (some 8) Ae ?_
 intro w1 hw1
 by_cases hok2:BZ c=true
 ·refine(Y6 w1 c (hc.ext (hw1.ext rfl) (fun _ h=>h)) hok2).mono ?_
  rintro e w3 ⟨lw3,rfl,hIw3,hLw3,hOw3,hkw3⟩
  have hfw3:=MW hok2;have hknw3:=hfw3.kn;have hEw3:=hIw3.fin;have hEbw3:=NG hfw3 _ (Nat.le_refl _);have hpnw3:=hfw3.pn
  rw[hw1.size]at hLw3 hOw3
  have hnw3:z+1≤w3.heap.size:=Dx hw1 hkw3
  refine⟨_,_,rfl,hw1.Lc hkw3, ?_⟩
  refine Hu 15 0 [0] [[o0,o0,o0,o0,(an 4 3),o0],[o0,o0],[o0,(a1 3),o0,(a1 1),(ov (i6 (lw3.End - c.Kernel))),o0,o0]] [Qb w3.heap.size,Qb w3.heap.size,Qb w3.heap.size,Qb w3.heap.size,Qb w3.heap.size,Qb z,Wr ((lw3.End:Int) - c.Kernel) (lw3.End - c.Kernel)] [(2,i6 (lw3.End - c.Kernel)),(3,i6 0)] ⟨w,w3.heap.size+1,[(Ak w),(bk z (Af.arr c) 26),(mid (z+1) w3),(.blk w3.heap.size (.cells (Bj.arr lw3) 31 (0,0)) true)]⟩ rfl ⟨rfl,rfl,rfl,rfl,rfl,rfl,Be,Ae⟩ ?_
  refine AZ [] [] (.tuple #[i6 (lw3.End - c.Kernel),i6 0]) Ae ?_
  intro w4 hw4
  refine⟨?_,Bg hw4⟩
  unfold Gi errOf;rw[if_pos hok2,if_pos hok2];rw[←hEw3]
 refine(Zp w1 c (hc.ext (hw1.ext rfl) (fun _ h=>h)) (Bool.eq_false_iff.2 hok2)).mono ?_
 rintro e w5 ⟨rfl,hkw5⟩
 have hnw5:z+1≤w5.heap.size:=Dx hw1 hkw5
 refine⟨_,_,rfl,hw1.keeps hkw5, ?_⟩
 refine Hu 13 0 [1] [[o0,o0,o0,o0,(an 4 2),o0],[o0,o0],[o0,o0,o0]] [Qb w5.heap.size,Qb w5.heap.size,Qb w5.heap.size,Qb w5.heap.size] [(2,i6 0),(3,i6 150)] ⟨w,w5.heap.size+1,[(Ak w),(bk z (Af.arr c) 26),(.blk w5.heap.size (.cells #[i6 0,.slice none 0 0,.slice none 0 0,i6 0] 31 (0,0)) true)]⟩ rfl ⟨rfl,rfl,rfl,rfl,Ae⟩ ?_
 refine AZ [] [] (.tuple #[i6 0,i6 150]) Ae ?_
 intro w6 hw6
 refine⟨?_,Bg hw6⟩
 unfold Gi errOf;rw[if_neg hok2,if_neg hok2]
end Go.Proofs.Ytlhjneaafhoipaa.Ly
namespace Go.Proofs.Ytlhjneaafhoipaa.Eng
open Go Go.Proofs.Ytlhjneaafhoipaa.Mem
set_option linter.unusedSimpArgs false
set_option linter.unusedVariables false
theorem Sat.grow{A:AW}{w w':World}(h:Sat A w){i:Nat}{c c':Ch}(hi:A.σ[i]? = some c)(hrw:c.rw=true)(hrw':c'.rw=true)(hk:BN c.F w w')(hh:c'.holds w')(hst:c'.stable)
   (hF:∀ b,c'.F b→c.F b∨b=w.heap.size) (hb:∀ b,c'.F b→b<w'.heap.size):Sat { A with n:=w'.heap.size,σ:=A.σ.set i c' } w':=by
 obtain⟨hlt,hix⟩:=List.getElem?_eq_some_iff.1 hi
 have hsize:A.n≤w'.heap.size:=by have:=hk.size;rw[h.size]at this;exact this
 have hap:∀ j d,j≠i→A.σ[j]? = some d→∀ b,d.F b→¬ c.F b:=by
   intro j d hji hj b hd hb
   exact NE h.Om (i:=i) (j:=j) (by rw[List.getElem?_map,hi];rfl) (by rw[List.getElem?_map,hj];rfl) (Ne.symm hji) hrw b hb hd
 refine⟨hk.os.trans h.os,hk.tape.trans h.tape,hk.output.trans h.output,rfl, ?_, ?_, ?_, ?_⟩
 · intro d hd
   obtain⟨j,hj⟩:=List.getElem?_of_mem hd
   by_cases hij:i=j
   · subst hij;rw[List.getElem?_set_self hlt]at hj;cases hj;exact hh
   · rw[List.getElem?_set_ne hij]at hj
     have hm:=List.mem_of_getElem? hj
     exact h.Oh d hm w w' (fun b hbd=>hk.block b (by rw[h.size];exact h.bnd d hm b hbd) (hap j d (Ne.symm hij) hj b hbd)) (h.all d hm)
 · intro d hd b hbd
   show b<w'.heap.size
   rcases List.mem_or_eq_of_mem_set hd with hd | rfl
   · have:=h.bnd d hd b hbd;omega
   · exact hb b hbd
 · intro d hd
   rcases List.mem_or_eq_of_mem_set hd with hd | rfl
   · exact h.Oh d hd
   · exact hst
 · show((A.σ.set i _).map Ch.key).Pairwise Key.apart
   rw[List.map_set,List.pairwise_iff_getElem]
   intro p q hp hq hpq
   simp only[List.length_set,List.length_map]at hp hq
   have key:∀ j (hj:j<A.σ.length),j≠i→Key.apart (Ch.key c') (Ch.key A.σ[j]):=by
     intro j hj hji _ b hbc hd
     have hjs:A.σ[j]? = some A.σ[j]:=by simp[hj]
     rcases hF b hbc with e1 | e1
     · exact hap j _ hji hjs b hd e1
     · have:=h.bnd _ (List.mem_of_getElem? hjs) b hd
       rw[←h.size]at this;omega
   simp only[List.getElem_set,List.getElem_map]
   by_cases h1:i=p
   · subst h1
     rw[if_pos rfl,if_neg (by omega)]
     exact key q hq (by omega)
   · rw[if_neg h1]
     by_cases h2:i=q
     · subst h2;rw[if_pos rfl];exact Key.TV (key p hp (by omega))
     · rw[if_neg h2]
       exact V7 h.Om (i:=p) (j:=q) (by simp[hp]) (by simp[hq]) (by omega)
structure HdAt{α:Type}(cells:α→List Value)(w:World)(hd:Sl α):Prop where
 len:hd.xs.length≤140737488351232
 le:hd.xs.length≤hd.cap
 cells:hd.xs≠[]→∃ g,hd.a=some ⟨g,0,none⟩∧g<w.heap.size∧∀ (j:Nat) (u:Value),(hd.xs.flatMap cells)[j]? = some u→w.cell? ⟨g,j,none⟩=some u
theorem own_a{α:Type}{hd:Sl α}{g:Nat}(h:hd.a=some ⟨g,0,none⟩):hd.val.ownBlock=some g:=by
 obtain⟨a,cap,xs⟩:=hd;simp only at h;subst h;rfl
theorem HdAt.same{α:Type}{cells:α→List Value}{w w':World}{hd:Sl α}(h:HdAt cells w hd)(hb:∀ b,hd.val.ownBlock=some b→w'.heap[b]? = w.heap[b]?):HdAt cells w' hd :=
 ⟨h.len,h.le,fun hne=>by
  obtain⟨g,ha,hlt,hc⟩:=h.cells hne
  have hbg:=hb g (own_a ha)
  refine⟨g,ha, ?_,fun j u hu => ?_⟩
  ·rcases Nat.lt_or_ge g w'.heap.size with h1 | h1
   ·exact h1
   rw[Array.getElem?_eq_none h1,Array.getElem?_eq_getElem hlt]at hbg;cases hbg
  rw[←hc j u hu]
  simp only[World.cell?,hbg]⟩
theorem O9{α:Type}{cells:α→List Value}{sz:Nat}{F F':Nat→Prop}{W W':World}{s:Sl α}(he:Ext F W W')(hF:∀ b,F b→F' b)(h:Jd cells sz F W s):Jd cells sz F' W' s :=
 ⟨h.len,h.le,fun hne=>by
  obtain⟨b,off,ha,hb,hc⟩:=h.cells hne
  exact⟨b,off,ha,hF b hb,fun i hi k v hv=>he _ _ _ hb (hc i hi k v hv)⟩⟩
theorem Sat.keepsO{A:AW}{w w' w0:World}{cs:List Ch}(h:Sat A w)(hk:BN (fun _=>False) w w')(hO:Sat ⟨w0,w'.heap.size,cs⟩ w')(hn:∀ c∈cs,∀ b,c.F b→A.n≤b):Sat { A with n:=w'.heap.size,σ:=A.σ++cs } w':=by
 have hsz:A.n≤w'.heap.size:=by have:=hk.size;rw[h.size]at this;exact this
 refine⟨hk.os.trans h.os,hk.tape.trans h.tape,hk.output.trans h.output,rfl, ?_, ?_, ?_, ?_⟩
 ·intro c hc
  rcases List.mem_append.1 hc with hc | hc
  ·exact h.Oh c hc w w' (fun b hb=>hk.block b (by rw[h.size];exact h.bnd c hc b hb) id) (h.all c hc)
  exact hO.all c hc
 ·intro c hc b hb
  rcases List.mem_append.1 hc with hc | hc
  ·exact Nat.lt_of_lt_of_le (h.bnd c hc b hb) hsz
  exact hO.bnd c hc b hb
 ·intro c hc
  rcases List.mem_append.1 hc with hc | hc
  ·exact h.Oh c hc
  exact hO.Oh c hc
 show((A.σ++cs).map Ch.key).Pairwise Key.apart
 rw[List.map_append,List.pairwise_append]
 refine⟨h.Om,hO.Om,fun k hk' k2 hk2 _ b hb hb' => ?_⟩
 obtain⟨c,hc,rfl⟩:=List.mem_map.1 hk'
 obtain⟨d,hd,rfl⟩:=List.mem_map.1 hk2
 have h1:=h.bnd c hc b hb
 have h2:=hn d hd b hb'
 omega
theorem Qw{α:Type}{base:Nat}{e:TypeId}{sz:Nat}{cells:α→List Value}{v:Value}{xs:List α}{w:World}(h:(AV base e sz cells v xs).holds w):∀ b,(AV base e sz cells v xs).F b→base≤b:=by
 intro b hb
 have h':w.ownsRow base e sz v xs.length (xs.flatMap cells):=h
 exact(h'.lt b hb).1
theorem Va{α:Type}{base:Nat}{e:TypeId}{sz:Nat}{cells:α→List Value}{hs:List (Sl α)}{w:World}(h:(AA base e sz cells hs).holds w):∀ b,(AA base e sz cells hs).F b→base≤b:=by
 rintro b ⟨s,hs',hb⟩
 exact((h.1 s hs').lt b hb).1
theorem Zk{α:Type}{cells:α→List Value}{sz:Nat}(hsz:∀ x,(cells x).length=sz):∀ (ys:List α) (j:Nat) (u:Value),(ys.flatMap cells)[j]? = some u→∃ i k,j=i*sz+k∧∃ h:i<ys.length,(cells ys[i])[k]? = some u
 | [],j,u,h=>by simp at h
 | y :: ys,j,u,h=>by
  rw[List.flatMap_cons]at h
  by_cases hj:j<(cells y).length
  ·rw[List.getElem?_append_left hj]at h
   exact⟨0,j,by omega,by simp,h⟩
  rw[List.getElem?_append_right (by omega),hsz]at h
  obtain⟨i,k,e,hi,hu⟩:=Zk hsz ys _ u h
  rw[hsz]at hj
  exact⟨i+1,k,by rw[Nat.succ_mul];omega,by simpa using hi,by simpa using hu⟩
theorem sl_news{α:Type}{cells:α→List Value}{sz:Nat}{F:Nat→Prop}{W:World}{s:Sl α}(hsz:∀ x,(cells x).length=sz)(h:Jd cells sz F W s){b off:Nat}(ha:s.a=some ⟨b,off,none⟩):∀ j u,(s.xs.flatMap cells)[j]? = some u→W.cell? ((⟨b,off,none⟩:Addr).add j)=some u:=by
 intro j u hu
 obtain⟨i,k,rfl,hi,hc⟩:=Zk hsz s.xs j u hu
 obtain⟨b',off',ha', -,hh⟩:=h.cells (fun e=>by rw[e]at hi;simp at hi)
 rw[ha]at ha'
 simp only[Option.some.injEq,Addr.mk.injEq,and_true]at ha'
 obtain⟨rfl,rfl⟩:=ha'
 have:=hh i hi k u hc
 have e1:(⟨b,off,none⟩:Addr).add (i*sz+k)=⟨b,off+EK sz i+k,none⟩:=by rw[MJ rfl,LY,Nat.add_assoc]
 rw[e1];exact this
section
variable {P:Program}{N:Nat}{env:Env}{ds:List Deferred}{A:AW}{ops:Array Oper}{l:List Oper}{s:List Kt}{Q:Exit→Act→World→Prop}{c:Code}
theorem We{w:World}{t ty e:TypeId}{f:TypeInfo}{a ya:Option Addr}{n cap cp:Nat}(ht:P.underlying t=some (.slice e))(hf:P.info? e=some f)(hn:n≤cap):(Builtin.append_ #[t,t] ty #[.slice a n cap,.slice ya 0 cp]).run P w = .ok (.slice a n cap) w:=by
 cases a <;> cases ya <;> simp[Builtin.append_,run_underlying ht,sizeOf,typeInfo,hf,Builtin.lenOf,Builtin.firstCells,loadCells,loadCellsFrom,hn,storeCells]
def appS(P:Program)(N:Nat)(ops:Array Oper)(env:Env)(o:Oper):Option (TypeId×Nat×Nat×Value×Option Addr×Nat×Nat):=match XL o,NM ops env o,JZ env o,NZ N o.dst with
 | some (x,y,t,u),some true,true,true=>match Nat.beq t u,P.underlying t,GR env y with
  | true,some (.slice e),.slice ad m cp=>match P.info? e with
   | some f=>match f.zero with
    | some z=>match Nat.beq z.cells.size f.size&&Nat.blt 0 f.size with
     | true=>some (e,f.size,f.bytes,GR env x,ad,m,cp)
     | false=>none
    | none=>none
   | none=>none
  | _,_,_=>none
 | _,_,_,_=>none
theorem appS_run{α:Type}{base:Nat}{o:Oper}{e:TypeId}{sz by':Nat}{v:Value}{ya:Option Addr}{m cp:Nat}(h:appS P N ops env o=some (e,sz,by',v,ya,m,cp)){i:Nat}{cells:α→List Value}{xs ys:List α}{a:Act}{w:World}(hst:St N env ds A a w)
   (hi:A.σ[i]? = some (AV base e sz cells v xs)) (hsz:∀ x,(cells x).length=sz) (h1:∀ x,∀ u∈cells x,u.oneCell'=true) (hd:Jd cells sz Any w ⟨ya,cp,ys⟩) (hm:ys.length=m) (h63:xs.length+m≤maxLen) (hb:(xs.length+m)*by'≤140737488355328) (hbase:base≤A.n) :
   Region.wanted o (yielded ops a.tmps)=true∧NZ N o.dst=true∧∃ a' cap' w',(execOp a.eval o).run P w = .ok (.value (.slice a' (xs++ys).length cap')) w'∧A.n≤w'.heap.size∧Sat { A with n:=w'.heap.size,σ:=A.σ.set i (AV base e sz cells (.slice a' (xs++ys).length cap') (xs++ys)) } w':=by
 unfold appS at h
 split at h
 · rename_i x y t u hop0 hw hk hd0
   have hop:=WJ hop0
   split at h
   · rename_i e' ad' m' cp' htu ht hy
     split at h
     · rename_i f' hf
       split at h
       · rename_i z' hz
         split at h
         · rename_i hzz
           simp only[Option.some.injEq,Prod.mk.injEq]at h
           obtain⟨rfl,rfl,rfl,rfl,rfl,rfl,rfl⟩:=h
           have htu':=Nat.eq_of_beq_eq_true htu
           subst htu'
           rw[Bool.and_eq_true]at hzz
           refine⟨FK hw hst,hd0, ?_⟩
           rw[Jc hst hk]
           by_cases h0:ys=[]
           · subst h0
             have hm0:m'=0:=by simpa using hm.symm
             subst hm0
             have hown:w.ownsRow base e' f'.size (GR env x) xs.length (xs.flatMap cells):=hst.mem.at hi
             have hle:∃ a0 cap0,GR env x = .slice a0 xs.length cap0∧xs.length≤cap0:=by
               rcases hown.2 with⟨e1,e2⟩ | ⟨g,cap,cur,e1, -, -,hnc, -⟩
               · exact⟨none,0,by rw[e1,e2],by omega⟩
               · exact⟨_,cap,e1,hnc⟩
             obtain⟨a0,cap0,hx,hnc⟩:=hle
             refine⟨a0,cap0,w, ?_,by rw[hst.mem.size];exact Nat.le_refl _, ?_⟩
             · unfold execOp
               simp only[hop,resolve,invoke,builtin,Sem.run_bind,Sem.run_pure,Result.andThen_ok,List.map_toArray,List.map_cons,List.map_nil,hy,hx,We ht hf hnc,List.append_nil]
             · rw[List.append_nil,←hx,hst.mem.size]
               have hset:A.σ.set i (AV base e' f'.size cells (GR env x) xs)=A.σ:=by
                 obtain⟨hlt,hix⟩:=List.getElem?_eq_some_iff.1 hi
                 rw[←hix,List.set_getElem_self]
               rw[hset];exact hst.mem
           · obtain⟨b,off,ha, -, -⟩:=hd.cells h0
             simp only at ha
             subst ha
             obtain⟨a',cap',w',hr,hsize,hs'⟩:=VV (ρ:=GR env) (news:=ys.flatMap cells) hop ht hf hz (Nat.eq_of_beq_eq_true hzz.1) (by simpa using hzz.2) hi rfl hy (by
               rw[←hm]
               have:∀ zs:List α,(zs.flatMap cells).length=zs.length*f'.size:=by
                 intro zs
                 induction zs with
                 | nil=>simp
                 | cons z zs ih=>rw[List.flatMap_cons,List.length_append,hsz,ih,List.length_cons,Nat.succ_mul];omega
               exact this ys) (fun u hu=>by
               obtain⟨q, -,hq⟩:=List.mem_flatMap.1 hu
               exact h1 q u hq) hst.mem (sl_news hsz hd rfl) h63 hb hbase
             subst hm
             rw[Uw,←List.length_append]at hs'
             rw[←List.length_append]at hr
             exact⟨a',cap',w',hr,hsize,hs'⟩
         · cases h
       · cases h
     · cases h
   · cases h
 · cases h
theorem O3{α:Type}(base i k:Nat)(xs ys:List α)(ya:Option Addr)(cells:α→List Value)(e:TypeId)(sz by':Nat)(v:Value)(m cp:Nat)(c0:Ch)(d:Option Nat)(h63:xs.length+ys.length≤1000000000000)(hbase:base≤A.n)(hd:∀ w',c0.holds w'→Jd cells sz Any w' ⟨ya,cp,ys⟩)
   (K:∀ a' cap' n',A.n≤n'→Lg P N (JG env d (.slice a' (xs++ys).length cap')) ds { A with n:=n',σ:=A.σ.set i (AV base e sz cells (.slice a' (xs++ys).length cap') (xs++ys)) } ops (l.drop 1) s Q)
   (hm:ys.length=m:=by rfl) (h:(match l with | o :: _=>(appS P N ops env o).map (fun x=>(x,o.dst)) | []=>none)=some ((e,sz,by',v,ya,m,cp),d):=by as_aux_lemma=>kernel_rfl) (hi:A.σ[i]? = some (AV base e sz cells v xs):=by rfl) (hk:A.σ[k]? = some c0:=by rfl) (hsz:∀ x,(cells x).length=sz:=by intro _;rfl) (h1:∀ x,(cells x).all Value.oneCell'=true:=by intro _;rfl) (hb:Nat.ble by' 140=true:=by as_aux_lemma=>kernel_rfl):Lg P N env ds A ops l s Q:=by
 intro a w hst
 have hb':=Nat.le_of_ble_eq_true hb
 have h64:xs.length+m≤1000000000000:=by omega
 cases l with
 | nil=>cases h
 | cons o l =>
   simp only[Option.map_eq_some_iff]at h
   obtain⟨y,hy,h⟩:=h
   simp only[Prod.mk.injEq]at h
   obtain⟨rfl,rfl⟩:=h
   obtain⟨hw,hdst,a',cap',w',hr,hsz',hs'⟩:=appS_run (xs:=xs) (ys:=ys) hy hst hi hsz (fun x u hu=>List.all_eq_true.1 (h1 x) u hu) (hd w (hst.mem.at hk)) hm (by unfold maxLen;omega) (Nat.le_trans (Nat.mul_le_mul h64 hb') (by decide)) hbase
   refine Oo hw (.inl hr) ?_
   exact K a' cap' _ hsz' _ _ (hst.put hs' _ hdst _)
end
theorem XD{z:Array Value}(hz:0<z.size):∀ (n:Nat),(madeCells z (n*z.size)).toList=(List.replicate n z.toList).flatten
 | 0=>by simp[madeCells]
 | n+1=>by
  have ih:=XD hz n
  rw[Nat.succ_mul]
  simp only[madeCells,Array.toList_map,Array.toList_range]at ih ⊢
  rw[List.range_add,List.map_append,ih,List.replicate_succ',List.flatten_append]
  congr 1
  rw[List.map_map]
  apply List.ext_getElem (by simp)
  intro i h1 h2
  have h1':i<z.size:=by simpa using h1
  have e1:(n*z.size+i) % z.size=i:=by rw[Nat.add_comm,Nat.add_mul_mod_self_right,Nat.mod_eq_of_lt h1']
  simp[e1,h1']
theorem XR{α:Type}{cells:α→List Value}{zt:α}:∀ (n:Nat),(List.replicate n (cells zt)).flatten=(List.replicate n zt).flatMap cells
 | 0=>rfl
 | n+1=>by rw[List.replicate_succ,List.replicate_succ,List.flatten_cons,List.flatMap_cons,XR n]
section
variable {P:Program}{N:Nat}{env:Env}{ds:List Deferred}{A:AW}{ops:Array Oper}{l:List Oper}{s:List Kt}{Q:Exit→Act→World→Prop}
def ZG(P:Program)(N:Nat)(ops:Array Oper)(env:Env)(o:Oper):Option (TypeId×Nat×Nat×Value×Int×Int):=match o.op,NM ops env o,JZ env o,NZ N o.dst with
 | .makeSlice t x y,some true,true,true=>match P.underlying t,GR env x,GR env y with
  | some (.slice e),.int _ i,.int _ j=>match P.info? e with
   | some f=>match f.zero with
    | some z=>match Nat.beq z.cells.size f.size&&Nat.blt 0 f.size with
     | true=>some (e,f.size,f.bytes,z,i,j)
     | false=>none
    | none=>none
   | none=>none
  | _,_,_=>none
 | _,_,_,_=>none
theorem makeA_run{α:Type}{base:Nat}{o:Oper}{e:TypeId}{sz by':Nat}{z:Value}{i j:Int}(h:ZG P N ops env o=some (e,sz,by',z,i,j)){n:Nat}{zt:α}{cells:α→List Value}(hi:i=(n:Int))(hj:j=(n:Int))(hz:z.cells.toList=cells zt)(hn:by' * n≤281474976710656)(hm:n≤maxLen)(hbase:base≤A.n){a:Act}{w:World}(hst:St N env ds A a w) :
   Region.wanted o (yielded ops a.tmps)=true∧NZ N o.dst=true∧∃ w',(execOp a.eval o).run P w = .ok (.value (.slice (some ⟨A.n,0,none⟩) n n)) w'∧A.n+1≤w'.heap.size∧Sat { A with n:=w'.heap.size,σ:=A.σ++[AV base e sz cells (.slice (some ⟨A.n,0,none⟩) n n) (List.replicate n zt)] } w':=by
 unfold ZG at h
 split at h
 · rename_i t x y hop hw hk hd
   split at h
   · rename_i e' k1 i' k2 j' ht hx hy
     split at h
     · rename_i f hf
       split at h
       · rename_i z' hz'
         split at h
         · rename_i hsz
           simp only[Option.some.injEq,Prod.mk.injEq]at h
           obtain⟨rfl,rfl,rfl,rfl,rfl,rfl⟩:=h
           rw[Bool.and_eq_true]at hsz
           have hs1:=Nat.eq_of_beq_eq_true hsz.1
           subst hi hj
           refine⟨FK hw hst,hd, ?_⟩
           rw[Jc hst hk]
           obtain⟨w',hr,ho,hg⟩:=run_make_full (P:=P) w base t e' f z' f.size ht hf hz' rfl k1 k2 n hn hm (by rw[hst.mem.size];exact hbase)
           rw[hst.mem.size]at hr ho
           have hkp:BN (fun _=>False) w w':=by
             have:=BN.of_grownBy hg
             exact⟨this.os,this.tape,this.output,this.size,fun k hk _=>this.block k hk (by simp)⟩
           have hlt:A.n<w'.heap.size:=by
             rcases ho.2 with⟨h1, -⟩ | ⟨g,cap,cur,h1, -,h2, -⟩
             · cases h1
             · cases h1;exact(Array.getElem?_eq_some_iff.1 h2).1
           rw[←hs1,XD (by rw[hs1];simpa using hsz.2),hz,XR,hs1]at ho
           refine⟨w',by simp[execOp,hop,hx,hy,hr,Sem.run,Result.andThen],hlt, ?_⟩
           refine hst.mem.keeps1 hkp (AV base e' f.size cells _ (List.replicate n zt)) ?_ (MH _ _ _ _ _ _) ?_
           · show w'.ownsRow base e' f.size _ (List.replicate n zt).length _
             rw[List.length_replicate];exact ho
           · intro b hb
             have hb':some A.n=some b:=hb
             cases hb'
             exact⟨Nat.le_refl _,hlt⟩
         · cases h
       · cases h
     · cases h
   · cases h
 · cases h
theorem Np{α:Type}{σC:List Ch}{late fuel:Nat}{listed:List Bool}{p:Nat}(base n:Nat)(zt:α)(cells:α→List Value)(e:TypeId)(sz by':Nat)(z:Value)(i j:Int)(d:Option Nat)(cix:List Nat)(hi:i=(n:Int))(hj:j=(n:Int))(hn:n≤1000000000000)(hbase:base≤A.n)
   (hC:Nat.beq p late=true∨picks cix A.σ=some σC)
   (K:∀ n',A.n+1≤n'→Wg P N (JG env d (.slice (some ⟨A.n,0,none⟩) n n)) ds { A with n:=n',σ:=A.σ++[AV base e sz cells (.slice (some ⟨A.n,0,none⟩) n n) (List.replicate n zt)] } ops σC late fuel (listed.set p true) s Q)
   (hp:Nat.blt p listed.length=true:=by rfl)
   (h:(match ops[p]? with | some o=>(ZG P N ops env o).map (fun x=>(x,o.dst)) | none=>none)=some ((e,sz,by',z,i,j),d):=by as_aux_lemma=>kernel_rfl) (hz:z.cells.toList=cells zt:=by rfl) (hb:Nat.ble by' 140=true:=by as_aux_lemma=>kernel_rfl):WO P N env ds A ops σC late fuel listed s Q p:=by
 intro a w hst hcl
 have hlt:p<listed.length:=by simpa using hp
 have hb':=Nat.le_of_ble_eq_true hb
 split at h
 · rename_i o ho
   simp only[Option.map_eq_some_iff]at h
   obtain⟨y,hy,h⟩:=h
   simp only[Prod.mk.injEq]at h
   obtain⟨rfl,rfl⟩:=h
   obtain⟨hw,hd,w',hr,hsz,hs'⟩:=makeA_run hy hi hj hz (Nat.le_trans (Nat.mul_le_mul hb' hn) (by decide)) (by unfold maxLen;omega) hbase hst
   unfold wpOp
   simp only[ho]
   rw[if_pos hw]
   left
   unfold Oper.wp
   rw[hr]
   have hcs:(listed.set p true).toArray.getD late false=false→Cs σC w':=by
     intro hl
     rcases hC with hC | hC
     · have:=Nat.eq_of_beq_eq_true hC
       subst this
       simp[hlt]at hl
     · intro c hc
       obtain⟨q,hq,hqs⟩:=Ox hC c hc
       refine hs'.all c (List.mem_append_left _ (List.mem_of_getElem? hqs))
   exact⟨hcs,K _ hsz _ _ (hst.put hs' _ hd _) hcl hcs⟩
 · cases h
end
theorem Sat.famOut{α:Type}[Inhabited α]{A:AW}{w:World}(h:Sat A w)(i:Nat)(is:List Nat){base:Nat}{e:TypeId}{sz:Nat}{cells:α→List Value}{hs:List (Sl α)}(n:Nat)(hn:n<hs.length){kept:List Ch}(hi:A.σ[i]? = some (AA base e sz cells hs))(hnd:nodupB is=true)(hni:is.contains i=false)(hp:picks is A.σ=some kept) :
   Sat { A with σ:=kept++[AA base e sz cells (hs.eraseIdx n),AV base e sz cells (gd hs n).val (gd hs n).xs] } w:=by
 have h1:(∀ s∈hs,w.ownsRow base e sz s.val s.xs.length (s.xs.flatMap cells))∧hs.Pairwise (fun s t=>∀ b,s.val.ownBlock=some b→t.val.ownBlock≠some b):=h.at hi
 have hg:gd hs n=hs[n]:=DC hn
 have hperm:hs.Perm (hs[n] :: hs.eraseIdx n):=by
   have e1:hs=hs.take n++hs[n] :: hs.drop (n+1):=by rw[List.getElem_cons_drop,List.take_append_drop]
   rw[List.eraseIdx_eq_take_drop_succ]
   conv=>lhs;rw[e1]
   exact List.perm_middle
 have hpw:(hs[n] :: hs.eraseIdx n).Pairwise (fun s t=>∀ b,s.val.ownBlock=some b→t.val.ownBlock≠some b):=(hperm.pairwise_iff (fun{x y} hxy b hb hb'=>hxy b hb' hb)).1 h1.2
 rw[List.pairwise_cons]at hpw
 have hall:∀ s∈hs.eraseIdx n,s∈hs:=fun s hs'=>hperm.mem_iff.2 (List.mem_cons_of_mem _ hs')
 have:=h.exch is hnd hp (BN.refl (fun _=>False) w) (fun _ _ _ _ x=>x) [AA base e sz cells (hs.eraseIdx n),AV base e sz cells (gd hs n).val (gd hs n).xs] (by
   intro d hd
   simp only[List.mem_cons,List.not_mem_nil,or_false]at hd
   rcases hd with rfl | rfl
   · refine⟨⟨fun s hs'=>h1.1 s (hall s hs'),hpw.2⟩,NS _ _ _ _ _, ?_⟩
     rintro b ⟨s,hs',hb⟩
     rw[h.size];exact h.bnd _ (List.mem_of_getElem? hi) b ⟨s,hall s hs',hb⟩
   · refine⟨?_,MH _ _ _ _ _ _, ?_⟩
     · show w.ownsRow base e sz (gd hs n).val (gd hs n).xs.length ((gd hs n).xs.flatMap cells)
       rw[hg];exact h1.1 _ (List.getElem_mem hn)
     · intro b hb
       rw[h.size];exact h.bnd _ (List.mem_of_getElem? hi) b ⟨gd hs n,by rw[hg];exact List.getElem_mem hn,hb⟩) (by
   simp only[List.map_cons,List.map_nil,List.pairwise_cons,List.mem_singleton,List.not_mem_nil,false_imp_iff,implies_true,List.Pairwise.nil,and_true]
   rintro k rfl _ b ⟨s,hs',hb⟩ hb'
   have hb2:(gd hs n).val.ownBlock=some b:=hb'
   rw[hg]at hb2
   exact hpw.1 s hs' b hb2 hb) (by
   intro d hd d' hd' _ b hb
   obtain⟨q,hq,hqs⟩:=Ox hp d hd
   have hap:=NE h.Om (i:=i) (j:=q) (by rw[List.getElem?_map,hi];rfl) (by rw[List.getElem?_map,hqs];rfl) (fun e=>by subst e;simp[hq]at hni) rfl
   simp only[List.mem_cons,List.not_mem_nil,or_false]at hd'
   intro hb'
   rcases hd' with rfl | rfl
   · obtain⟨s,hs',hbb⟩:=hb'
     exact hap b ⟨s,hall s hs',hbb⟩ hb
   · exact hap b ⟨gd hs n,by rw[hg];exact List.getElem_mem hn,hb'⟩ hb)
 rw[h.size]at this
 exact this
theorem Sat.famIn{α:Type}[Inhabited α]{A:AW}{w:World}(h:Sat A w)(i j:Nat)(is:List Nat){base:Nat}{e:TypeId}{sz:Nat}{cells:α→List Value}{hs:List (Sl α)}(n:Nat)(hn:n<hs.length){a:Option Addr}{cap:Nat}{xs:List α}{kept:List Ch}(hi:A.σ[i]? = some (AA base e sz cells (hs.eraseIdx n)))(hj:A.σ[j]? = some (AV base e sz cells (.slice a xs.length cap) xs))(hij:i≠j)
   (hnd:nodupB is=true) (hni:is.contains i=false) (hnj:is.contains j=false) (hp:picks is A.σ=some kept):Sat { A with σ:=kept++[AA base e sz cells (hs.set n ⟨a,cap,xs⟩)] } w:=by
 have h1:=h.fam i j is hi hj hij hnd hni hnj hp
 have hperm:(hs.eraseIdx n++[(⟨a,cap,xs⟩:Sl α)]).Perm (hs.set n ⟨a,cap,xs⟩):=by
   rw[List.eraseIdx_eq_take_drop_succ,List.set_eq_take_append_cons_drop,if_pos hn]
   rw[List.append_assoc]
   exact List.Perm.append_left _ (List.perm_append_singleton _ _)
 have hF:AA base e sz cells (hs.eraseIdx n++[(⟨a,cap,xs⟩:Sl α)])=AA base e sz cells (hs.set n ⟨a,cap,xs⟩):=by
   unfold AA
   congr 1
   · funext b
     apply propext
     exact⟨fun⟨s,hs',hb⟩=>⟨s,hperm.mem_iff.1 hs',hb⟩,fun⟨s,hs',hb⟩=>⟨s,hperm.mem_iff.2 hs',hb⟩⟩
   · funext w
     apply propext
     have hsym:∀ {x y:Sl α},(∀ b,x.val.ownBlock=some b→y.val.ownBlock≠some b)→(∀ b,y.val.ownBlock=some b→x.val.ownBlock≠some b):=fun hxy b hb hb'=>hxy b hb' hb
     exact⟨fun⟨p1,p2⟩=>⟨fun s hs'=>p1 s (hperm.mem_iff.2 hs'),(hperm.pairwise_iff hsym).1 p2⟩,fun⟨p1,p2⟩=>⟨fun s hs'=>p1 s (hperm.mem_iff.1 hs'),(hperm.pairwise_iff hsym).2 p2⟩⟩
 rw[hF]at h1
 exact h1
section
variable {P:Program}{N:Nat}{env:Env}{ds:List Deferred}{A:AW}{ops:Array Oper}{l:List Oper}{s:List Kt}{Q:Exit→Act→World→Prop}{c:Code}
theorem VA{α:Type}[Inhabited α](i:Nat)(is:List Nat)(base:Nat)(e:TypeId)(sz:Nat)(cells:α→List Value)(hs:List (Sl α))(n:Nat)(x:Sl α)(hx:x=gd hs n)(hn:n<hs.length)(kept:List Ch)(K:G P N env ds { A with σ:=kept++[AA base e sz cells (hs.eraseIdx n),AV base e sz cells (.slice x.a x.xs.length x.cap) x.xs] } c s Q)
   (hi:A.σ[i]? = some (AA base e sz cells hs):=by rfl) (hnd:nodupB is=true:=by rfl) (hni:is.contains i=false:=by rfl) (hp:picks is A.σ=some kept:=by rfl):G P N env ds A c s Q:=by
 subst hx
 exact fun a' w hst=>K a' w ⟨hst.sz,hst.df,hst.kn,hst.mem.famOut i is n hn hi hnd hni hp⟩
theorem XX{α:Type}(base:Nat)(e:TypeId)(sz:Nat)(cells:α→List Value)(n:Nat)(h:G P N env ds { A with σ:=A.σ++[AA base e sz cells (List.replicate n ⟨none,0,[]⟩)] } c s Q):G P N env ds A c s Q:=fun a w hst=>h a w ⟨hst.sz,hst.df,hst.kn,hst.mem.more _ (show(∀ s∈List.replicate n (⟨none,0,[]⟩:Sl α),w.ownsRow base e sz s.val s.xs.length (s.xs.flatMap cells))∧(List.replicate n (⟨none,0,[]⟩:Sl α)).Pairwise (fun s t=>∀ b,s.val.ownBlock=some b→t.val.ownBlock≠some b)from
 ⟨fun s hs=>by obtain⟨-,rfl⟩:=List.mem_replicate.1 hs;exact⟨by simp,.inl ⟨rfl,rfl⟩⟩,List.pairwise_replicate.2 (.inr (fun b hb=>by cases hb))⟩) (NS _ _ _ _ _) (fun b hb=>by obtain⟨s,hm,hb⟩:=hb;obtain⟨-,rfl⟩:=List.mem_replicate.1 hm;cases hb)⟩
theorem Xp{α:Type}[Inhabited α]{x:Exit}(i j:Nat)(is:List Nat)(base:Nat)(e:TypeId)(sz:Nat)(cells:α→List Value)(hs:List (Sl α))(n:Nat)(hn:n<hs.length)(a:Option Addr)(cap:Nat)(xs:List α)(kept:List Ch)(K:E P N env ds { A with σ:=kept++[AA base e sz cells (hs.set n ⟨a,cap,xs⟩)] } x s Q)
   (hi:A.σ[i]? = some (AA base e sz cells (hs.eraseIdx n)):=by rfl) (hj:A.σ[j]? = some (AV base e sz cells (.slice a xs.length cap) xs):=by rfl) (hij:i≠j:=by decide) (hnd:nodupB is=true:=by rfl) (hni:is.contains i=false:=by rfl) (hnj:is.contains j=false:=by rfl) (hp:picks is A.σ=some kept:=by rfl):E P N env ds A x s Q :=
 fun a' w hst=>K a' w ⟨hst.sz,hst.df,hst.kn,hst.mem.famIn i j is n hn hi hj hij hnd hni hnj hp⟩
end
section
variable {P:Program}{N:Nat}{env:Env}{ds:List Deferred}{A:AW}{ops:Array Oper}{l:List Oper}{s:List Kt}{Q:Exit→Act→World→Prop}{c:Code}
theorem PM{α:Type}{base:Nat}{e:TypeId}{sz:Nat}{cells:α→List Value}{a:Option Addr}{n cap:Nat}{xs:List α}(i:Nat)(hx:xs.length=n)(K:n≤cap→G P N env ds A c s Q)(hi:A.σ[i]? = some (AV base e sz cells (.slice a n cap) xs):=by rfl):G P N env ds A c s Q:=fun a' w hs=>by
 refine K ?_ a' w hs
 have hown:w.ownsRow base e sz (.slice a n cap) xs.length (xs.flatMap cells):=hs.mem.at hi
 rcases hown.2 with⟨h1,h2⟩ | ⟨g,cap',cur,h1, -, -,hnc, -⟩
 ·omega
 cases h1;omega
end
theorem sl_take{α:Type}{cells:α→List Value}{sz:Nat}{F:Nat→Prop}{W:World}{a:Option Addr}{cap:Nat}{xs ys:List α}(h:Jd cells sz F W ⟨a,cap,xs++ys⟩):Jd cells sz F W ⟨a,cap,xs⟩:=by
 refine⟨by have:=h.len;simp at this ⊢;omega,by have:=h.le;simp at this ⊢;omega,fun hne => ?_⟩
 obtain⟨b,off,ha,hF,hc⟩:=h.cells (by simp at hne ⊢;intro h;exact absurd h hne)
 refine⟨b,off,ha,hF,fun i hi k v hv=>hc i (by simp at hi ⊢;omega) k v (by simp only at hi ⊢;rw[List.getElem_append_left hi];exact hv)⟩
theorem Sat.two{A:AW}{w:World}(h:Sat A w){i j:Nat}{c d:Ch}(hi:A.σ[i]? = some c)(hj:A.σ[j]? = some d)(hne:i≠j)(hr:c.rw=true):∀ b,c.F b→¬ d.F b :=
 fun b hcb hdb=>NE h.Om (i:=i) (j:=j) (by rw[List.getElem?_map,hi];rfl) (by rw[List.getElem?_map,hj];rfl) hne hr b hcb hdb
def UZ(P:Program){α:Type}:Sem α→Option α
 | .pure a=>some a
 | .program k=>UZ P (k P)
 | .mark _ k=>UZ P k
 | _=>none
theorem pureA_run{P:Program}{α:Type}(s:Sem α):∀ {x:α},UZ P s=some x→∀ w,s.run P w = .ok x w:=by
 induction s with
 | pure a=>intro x h w;simp[UZ]at h;subst h;rfl
 | program k ih=>intro x h w;exact ih P h w
 | mark m k ih=>intro x h w;exact ih h w
 | _=>intro x h;simp[UZ]at h
inductive Cst where
 | tk (i:Nat) (c:OC)
 | cl (i:Nat) (v:Value)
abbrev XM:=FuncId×Array Value×Value
def Zq(P:Program)(σC:List Ch):List XM→Prop
 | []=>True
 | (f,args,v) :: r=>(∀ w,Cs σC w→Calls P f args w fun e w'=>e = .returned v∧BN (fun _=>False) w w')∧Zq P σC r
theorem Cs.ext{σC:List Ch}{W w:World}(h:Cs σC w)(hi:σC[0]? = some (Ak W)):Ext Any W w:=fun b k v _ hv=>BA hv w (h _ (List.mem_of_getElem? hi))
def Z9(P:Program)(N:Nat)(ops:Array Oper)(σC:List Ch)(w0:World)(env:Env)(c:OC)(o:Oper):Option (List Prop×Value):=match NZ N o.dst,NM ops env o with
 | true,some false=>some ([],undef)
 | true,some true=>match JZ env o,Qi P true (GR env) o ⟨w0,0,σC⟩ c.k with
  | true,some (vs,v,_)=>match c.asv with
   | none=>some (vs,v)
   | some u=>some (vs++[v=u],u)
  | _,_=>none
 | _,_=>none
def ZE(P:Program)(ops:Array Oper)(env:Env)(o:Oper):Option (FuncId×Array Value):=match NM ops env o,JZ env o,UZ P (execOp (GR env) o)with
 | some true,true,some (.enter f args)=>some (f,args)
 | _,_,_=>none
def notDst(d:Nat):Option Nat→Bool
 | none=>true
 | some t => !Nat.beq t d
def RF:Option (Nat×Nat)→List Bool→List Bool
 | none,l=>l
 | some (f,_),l=>l.set f true
def ZF:Option (Nat×Nat)→Option Nat→Bool
 | none,_=>true
 | some (_,d),x=>notDst d x
def flready:Option (Nat×Nat)→Nat→List Nat→Bool
 | none,i,l=>l==[i]
 | some (f,_),i,l => !Nat.beq i f&&(l==[i,f]||l==[f,i])
def ZB(ops:Array Oper)(late i:Nat)(l:List Bool):Bool:=ahead .any ops late i && !Nat.beq i late&&Region.free .any ops l.toArray i&&(Region.ready .any ops l.toArray).contains i
def Ri(P:Program)(N:Nat)(ops:Array Oper)(σC:List Ch)(w0:World)(late:Nat)(fl:Option (Nat×Nat)):List Cst→List Bool→Env→Option (List Prop×List XM×List Bool×Env)
 | [],l,env=>some ([],[],l,env)
 | .tk i c :: r,l,env=>match ZB ops late i l&&ZB ops late i (RF fl l),ops[i]? with
  | true,some o=>match Z9 P N ops σC w0 env c o,ZF fl o.dst with
   | some (vs,v),true=>match Ri P N ops σC w0 late fl r (l.set i true) (JG env o.dst v)with
    | some (us,x)=>some (vs++us,x)
    | none=>none
   | _,_=>none
  | _,_=>none
 | .cl i v :: r,l,env=>match Nat.blt i l.length && !Nat.beq i late&&flready fl i (Region.ready .any ops l.toArray)&&(Region.ready .any ops (RF fl l).toArray==[i]),ops[i]? with
  | true,some o=>match ZE P ops env o,ZF fl o.dst&&NZ N o.dst with
   | some (f,args),true=>match Ri P N ops σC w0 late fl r (l.set i true) (JG env o.dst v)with
    | some (us,cs,x)=>some (us,(f,args,v) :: cs,x)
    | none=>none
   | _,_=>none
  | _,_=>none
section
variable {P:Program}{N:Nat}{env:Env}{ds:List Deferred}{A:AW}{ops:Array Oper}{σC:List Ch}{late fuel:Nat}{listed:List Bool}{s:List Kt}{Q:Exit→Act→World→Prop}
def WR(R:Act→Prop)(P:Program)(N:Nat)(env:Env)(ds:List Deferred)(A:AW)(ops:Array Oper)(σC:List Ch)(late fuel:Nat)(listed:List Bool)(s:List Kt)(Q:Exit→Act→World→Prop):Prop :=
 ∀ a w,R a→St N env ds A a w→Closed .any ops listed.toArray→(listed.toArray.getD late false=false→Cs σC w)→Kw P .any ops (Quiet (QQ P s Q)) late (Cs σC) fuel listed.toArray a w
theorem UL(l:List Bool)(i:Nat):l.toArray.setIfInBounds i true=(l.set i true).toArray:=by simp
theorem tk_one{R:Act→Prop}{i:Nat}{c:OC}{o:Oper}{vs:List Prop}{v:Value}(hs:Region.noSelect ops=true)(ht:ZB ops late i listed=true)(hi:ops[i]? = some o)(hv:Z9 P N ops σC A.w0 env c o=some (vs,v))(hall:Gu vs)
   (hR:∀ a u,R a→R (a.put o.dst u)) (K:WR R P N (JG env o.dst v) ds A ops σC late fuel (listed.set i true) s Q):WR R P N env ds A ops σC late (fuel+1) listed s Q:=by
 simp only[ZB,Bool.and_eq_true,Bool.not_eq_true']at ht
 obtain⟨⟨⟨hah,hil0⟩,hfr⟩,hrd⟩:=ht
 intro a w hRa hst hcl hC
 have hil:i≠late:=fun e=>by subst e;rw[Nat.beq_refl]at hil0;cases hil0
 have hrd':i∈Region.ready .any ops listed.toArray:=by simpa using hrd
 have hC0:=hC (TW hah hi hcl hrd')
 have hQ:∀ v c a w,Quiet (QQ P s Q) (.panic c) (a.put o.dst v) w→Quiet (QQ P s Q) (.panic c) a w:=fun _ _ _ _ h=>Xu h
 have hcl':Closed .any ops (listed.set i true).toArray:=by rw[←UL];exact NR hcl hrd'
 have go:∀ u,YieldsIf P ops (Cs σC) o u a→Kw P .any ops (Quiet (QQ P s Q)) late (Cs σC) fuel (listed.set i true).toArray (a.put o.dst u) w→Kw P .any ops (Quiet (QQ P s Q)) late (Cs σC) (fuel+1) listed.toArray a w:=by
   intro u hy hw
   exact first (md:= .any) (late:=late) (C:=Cs σC) hah hi (Region.noSelect_spec hs) (hQ u) fuel listed.toArray a w hcl (Region.free_spec hi hfr) hrd' hy hC0 hil (by rw[UL];exact hw)
 unfold Z9 at hv
 split at hv
 · rename_i hd hw
   simp only[Option.some.injEq,Prod.mk.injEq]at hv
   obtain⟨rfl,rfl⟩:=hv
   exact go undef (.inr ⟨FK hw hst,rfl⟩) (K _ _ (hR _ _ hRa) (hst.put hst.mem _ hd undef) hcl' (fun _=>hC0))
 · rename_i hd hw
   have hw':=FK hw hst
   split at hv
   · rename_i vs1 v1 A1 hk hx
     have hcg:=Jc hst hk
     have hy:Gu vs1→YieldsIf P ops (Cs σC) o v1 a:=fun h1=> .inl ⟨hw',fun w1 hC1=>by rw[hcg];exact Yg hx h1 hC1⟩
     split at hv
     · simp only[Option.some.injEq,Prod.mk.injEq]at hv
       obtain⟨rfl,rfl⟩:=hv
       exact go _ (hy hall) (K _ _ (hR _ _ hRa) (hst.put hst.mem _ hd _) hcl' (fun _=>hC0))
     · simp only[Option.some.injEq,Prod.mk.injEq]at hv
       obtain⟨rfl,rfl⟩:=hv
       rw[CZ]at hall
       obtain⟨h1,h2, -⟩:=hall
       have h2':v1=_:=h2
       subst h2'
       exact go _ (hy h1) (K _ _ (hR _ _ hRa) (hst.put hst.mem _ hd _) hcl' (fun _=>hC0))
   · cases hv
 · cases hv
theorem cl_op{R:Act→Prop}{i n:Nat}{o:Oper}{v:Value}{f:FuncId}{args:Array Value}{a:Act}{w:World}{σ:List Ch}(hi:ops[i]? = some o)(hc:ZE P ops env o=some (f,args))(hd:NZ N o.dst=true)(hck:∀ w,Cs σC w→Calls P f args w fun e w'=>e = .returned v∧BN (fun _=>False) w w')
   (hsub:∀ c∈σC,c∈σ) (hRa:R a) (hR:∀ a u,R a→R (a.put o.dst u)) (hst:St N env ds ⟨A.w0,n,σ⟩ a w) (hcl:Closed .any ops (listed.set i true).toArray)
   (K:∀ n',n≤n'→WR R P N (JG env o.dst v) ds ⟨A.w0,n',σ⟩ ops σC late fuel (listed.set i true) s Q) :
   wpOp P ops (Quiet (QQ P s Q)) i (fun a' w'=>((listed.set i true).toArray.getD late false=false→Cs σC w')∧Kw P .any ops (Quiet (QQ P s Q)) late (Cs σC) fuel (listed.set i true).toArray a' w') a w:=by
 unfold ZE at hc
 split at hc
 · rename_i f' args' x hw hk hr
   simp only[Option.some.injEq,Prod.mk.injEq]at hc
   obtain⟨rfl,rfl⟩:=hc
   unfold wpOp
   simp only[hi]
   rw[if_pos (FK hw hst)]
   left
   unfold Oper.wp
   rw[Jc hst hk,pureA_run _ hr w]
   refine(hck w (fun c hc=>hst.mem.all c (hsub c hc))).mono ?_
   rintro e w' ⟨rfl,hkp⟩
   have hs1:=hst.mem.keeps hkp
   have hcs:Cs σC w':=fun c hc=>hs1.all c (hsub c hc)
   exact⟨fun _=>hcs,K _ (Dx hst.mem hkp) _ _ (hR _ _ hRa) (hst.put hs1 _ hd _) hcl (fun _=>hcs)⟩
 · cases hc
theorem X0{fl:Option (Nat×Nat)}{l:List Bool}{i:Nat}:(RF fl l).set i true=RF fl (l.set i true):=by
 cases fl with
 | none=>rfl
 | some x =>
  obtain⟨f,d⟩:=x
  show(l.set f true).set i true=(l.set i true).set f true
  by_cases h:f=i
  ·subst h;rfl
  exact List.set_comm _ _ h
theorem chain_T{R:Act→Prop}{fl:Option (Nat×Nat)}(hs:Region.noSelect ops=true){σ:List Ch}{w0:World}(hsub:∀ c∈σC,c∈σ)(hR:∀ a dst u,ZF fl dst=true→R a→R (a.put dst u)){m:Nat} :
   ∀ (steps:List Cst) (l:List Bool) (env:Env) (vs:List Prop) (cs:List XM) (l':List Bool) (env':Env) (n:Nat),Ri P N ops σC w0 late fl steps l env=some (vs,cs,l',env')→Gu vs→Zq P σC cs →
     (∀ n',n≤n'→WR R P N env' ds ⟨w0,n',σ⟩ ops σC late m (RF fl l') s Q)→WR R P N env ds ⟨w0,n,σ⟩ ops σC late (m+steps.length) (RF fl l) s Q:=by
 intro steps
 induction steps with
 | nil =>
   intro l env vs cs l' env' n h hv hc K
   simp only[Ri,Option.some.injEq,Prod.mk.injEq]at h
   obtain⟨-, -,rfl,rfl⟩:=h
   exact K n (Nat.le_refl _)
 | cons x r ih =>
   intro l env vs cs l' env' n h hv hc K
   cases x with
   | tk i c =>
     simp only[Ri]at h
     split at h
     · rename_i o hok hi
       rw[Bool.and_eq_true]at hok
       split at h
       · rename_i vs1 v hx hfl
         split at h
         · rename_i us y hy
           obtain⟨cs1,l1,e1⟩:=y
           simp only[Option.some.injEq,Prod.mk.injEq]at h
           obtain⟨rfl,rfl,rfl,rfl⟩:=h
           rw[CZ]at hv
           have:=ih (l.set i true) _ us _ _ _ n hy hv.2 hc K
           refine tk_one (A:=⟨w0,n,σ⟩) (fuel:=m+r.length) hs hok.2 hi hx hv.1 (fun a u=>hR a _ u hfl) ?_
           rw[X0];exact this
         · cases h
       · cases h
     · cases h
   | cl i v =>
     simp only[Ri]at h
     split at h
     · rename_i o hok hi
       simp only[Bool.and_eq_true]at hok
       obtain⟨⟨⟨hlt,hlate⟩,hrd0⟩,hrd⟩:=hok
       split at h
       · rename_i f args hx hfl
         rw[Bool.and_eq_true]at hfl
         split at h
         · rename_i us cs1 y hy
           obtain⟨l1,e1⟩:=y
           simp only[Option.some.injEq,Prod.mk.injEq]at h
           obtain⟨rfl,rfl,rfl,rfl⟩:=h
           obtain⟨hc1,hc2⟩:=hc
           intro a w hRa hst hcl hC
           have hr:Region.ready .any ops (RF fl l).toArray=[i]:=by simpa using hrd
           refine⟨fun h0=>(by rw[hr]at h0;cases h0),fun j hj => ?_⟩
           have hcl':Closed .any ops ((RF fl l).set j true).toArray:=by rw[←UL];exact NR hcl hj
           rw[hr]at hj
           obtain rfl:=List.mem_singleton.1 hj
           rw[UL]
           refine cl_op (A:=⟨w0,n,σ⟩) (R:=R) hi hx hfl.2 hc1 hsub hRa (fun a u=>hR a _ u hfl.1) hst hcl' (fun n' hn' => ?_)
           rw[X0]
           exact ih (l.set j true) _ us _ _ _ n' hy hv hc2 (fun n2 hn2=>K n2 (Nat.le_trans hn' hn2))
         · cases h
       · cases h
     · cases h
theorem ZZ{is:List Nat}{l cs:List Ch}(h:picks is l=some cs):∀ c∈cs,c∈l:=Dt h
theorem w_chainN(steps:List Cst)(keep:List Nat)(cs:List XM)(l':List Bool)(vs:List Prop)(env':Env)(cix:List Nat)
   (hv:Gu vs) (hc:Zq P σC cs) (K:∀ n,A.n≤n→Wg P N env' ds ⟨A.w0,n,A.σ⟩ ops σC late (fuel - steps.length) l' s Q)
   (h:(match Ri P N ops σC A.w0 late none steps listed env with | some (vs,cs,l,e)=>some (vs,cs,l,Lj keep e) | none=>none)=some (vs,cs,l',env'):=by as_aux_lemma=>kernel_rfl)
   (hC:picks cix A.σ=some σC:=by rfl) (hf:Nat.ble steps.length fuel=true:=by as_aux_lemma=>kernel_rfl) (hs:Region.noSelect ops=true:=by as_aux_lemma=>kernel_rfl):Wg P N env ds A ops σC late fuel listed s Q:=by
 split at h
 · rename_i vs1 cs1 l1 e1 h1
   simp only[Option.some.injEq,Prod.mk.injEq]at h
   obtain⟨rfl,rfl,rfl,rfl⟩:=h
   have hle:=Nat.le_of_ble_eq_true hf
   obtain⟨w0,n,σ⟩:=A
   have key:=chain_T (R:=fun _=>True) (m:=fuel - steps.length) (ds:=ds) (s:=s) (Q:=Q) (fl:=none) hs (ZZ hC) (fun _ _ _ _ h=>h) steps listed env _ _ _ _ n h1 hv hc (fun n' hn a w _ hst hcl hcc=>K n' hn a w (hst.sub (fun t v=>JS)) hcl hcc)
   rw[show fuel - steps.length+steps.length=fuel from by omega]at key
   exact fun a w=>key a w trivial
 · cases h
end
open Go Go.ChangeShapes Go.WideShapes Go.Deep
theorem weightsAll_mem{H:Type}{P:Program}{e:TypeId}:∀ {l:List (DataW H)} {d:DataW H},d∈l→∀ n∈d.weights P e,n∈DataW.weightsAll P e l
 | a :: l,d,h,n,hn=>by
  simp only[DataW.weightsAll,List.mem_append]
  rcases List.mem_cons.1 h with rfl | h
  ·exact .inl hn
  exact .inr (weightsAll_mem h n hn)
def Rd(P:Program){α:Type}(t:TypeId)(cells:α→List Value)(ok:(Nat→Prop)→World→α→Prop):Prop :=
 ∀ (H:Type) (enc:TypeId×Value→H) (W:World) (fuel:Nat) (cs:List Value) (x:DataW H×List MemPlace),DataW.trod enc P W 0 (fun _=>true) true fuel t cs=some x→(∀ n∈x.1.weights P t,n≤reachBytes)→∃ a:α,cs=cells a∧ok Any W a
section
variable {P:Program}{t:TypeId}
theorem IP{k:IntKind}(ht:P.underlying t=some (.int k)):Rd P t (fun x:Int=>[Value.int k x]) (fun _ _ x=>Fb k x):=by
 intro H enc W fuel cs x h _
 obtain⟨n,rfl,rfl,hw⟩:=DataW.trod_int ht h
 refine⟨n,rfl, ?_⟩
 simp only[Lit.wf,Bool.and_eq_true,decide_eq_true_eq]at hw
 cases k <;> simp only[Fb] <;> simp[IntKind.min,IntKind.max,IntKind.bits,IntKind.signed]at hw <;> first | omega | exact⟨by omega,by omega⟩ | trivial
theorem rd_bool(ht:P.underlying t=some .bool):Rd P t (fun x:Bool=>[Value.bool x]) (fun _ _ _=>True):=by
 intro H enc W fuel cs x h _
 obtain⟨b,rfl,rfl⟩:=DataW.trod_bool ht h
 exact⟨b,rfl,Ae⟩
theorem ZQ(ht:P.underlying t=some .string):Rd P t (fun x:ByteArray=>[Value.string x]) (fun _ _ x=>x.size≤140737488351232):=by
 intro H enc W fuel cs x h hw
 obtain⟨s,rfl,rfl, -⟩:=DataW.trod_string ht h
 refine⟨s,rfl, ?_⟩
 have:=hw s.data.toList.length (by simp[DataW.weights])
 simpa[reachBytes]using this
theorem PO{α:Type}[Inhabited α]{cells:α→List Value}{ok:(Nat→Prop)→World→α→Prop}{e:TypeId}{sz:Nat}(ht:P.underlying t=some (.slice e))(hc:P.cellsOf e=sz)(hsz:∀ x,(cells x).length=sz)(hs0:0<sz)(hpos:Nat.blt 0 (P.bytesOf e)=true)(h:Rd P e cells ok) :
   Rd P t (fun s:Sl α=>[s.val]) (fun F W s=>F8 cells sz ok F W s):=by
 intro H enc W fuel cs x hx hw
 rcases open_slice ht hx with⟨rfl,rfl⟩ | ⟨a,len,cap,m,n,D,Pl,rfl,hb,hl,hm,hmm,rfl,hi⟩
 · exact⟨⟨none,0,[]⟩,rfl,⟨Nat.zero_le _,Nat.le_refl _,fun h=>absurd rfl h⟩,fun i hi=>absurd hi (Nat.not_lt_zero i)⟩
 · simp only[if_true]at hmm
   subst hmm
   rw[hc]at hi
   have hww:∀ q∈DataW.weightsAll P e ((List.range len).map D),q≤reachBytes:=fun q hq=>hw q (by simp only[DataW.weights,ht,List.mem_cons,List.mem_append];exact .inr (.inl hq))
   have hY:∀ i,i<len→∃ y:α,(W.cells? 0 (a.add (i*sz)) sz=some (cells y))∧ok Any W y:=by
     intro i hi'
     obtain⟨cs',h1,h2⟩:=hi i (by omega)
     obtain⟨y,rfl,hy⟩:=h H enc W n cs' _ h2 (fun q hq=>hww q (weightsAll_mem (d:=D i) (List.mem_map_of_mem (List.mem_range.2 hi')) q hq))
     exact⟨y,h1,hy⟩
   obtain⟨Y,hY⟩:=choose_lt hY
   have hbig:(len+(m - len))*P.bytesOf e≤reachBytes:=hw _ (by simp[DataW.weights,ht])
   have hlen:len+(m - len)≤140737488351232:=Nat.le_trans (Nat.le_mul_of_pos_right _ (by simpa using hpos)) hbig
   have hg:∀ i,i<len→gd ((List.range len).map Y) i=Y i:=fun i hi'=>by rw[DC (by simpa using hi')];simp
   refine⟨⟨some a,m,(List.range len).map Y⟩,by simp[Sl.val],⟨by simp;omega,by simpa using hl,fun hne => ?_⟩,fun i hi' => ?_⟩
   · have h0:0<len:=by
       rcases Nat.eq_zero_or_pos len with h | h
       · subst h;exact absurd rfl hne
       · exact h
     have hsp:a.spot=none:=by
       obtain⟨-, -,h3⟩:=World.cells?_some (hY 0 h0).1
       have h4:=h3 0 hs0
       rw[List.getElem?_eq_getElem (by rw[hsz];exact hs0)]at h4
       have:=World.cell?_spot h4
       simpa[Addr.add]using this
     obtain⟨b,off,sp⟩:=a
     simp only at hsp;subst hsp
     refine⟨b,off,rfl,Ae,fun i hi' k v hv => ?_⟩
     have hi2:i<len:=by simpa using hi'
     obtain⟨-, -,h3⟩:=World.cells?_some (hY i hi2).1
     have hv':(cells (Y i))[k]? = some v:=by simpa using hv
     have hk:k<sz:=by rw[←hsz (Y i)];exact(List.getElem?_eq_some_iff.1 hv').1
     have:=h3 k hk
     rw[hv']at this
     rw[LY]
     have e1:(⟨b,off,none⟩:Addr).add (i*sz)=⟨b,off+i*sz,none⟩:=MJ rfl _
     have e2:(⟨b,off+i*sz,none⟩:Addr).add k=⟨b,off+i*sz+k,none⟩:=MJ rfl _
     rw[e1,e2]at this
     exact this
   · have hi2:i<len:=by simpa using hi'
     rw[hg i hi2];exact(hY i hi2).2
theorem EC{H:Type}{enc:TypeId×Value→H}{W:World}{α:Type}{cells:α→List Value}{ok:(Nat→Prop)→World→α→Prop}{fs:Array Field}{xs:List (DataW H×List MemPlace)}{n:Nat}{cs:List Value}(ht:P.underlying t=some (.struct fs))(hlen:xs.length=fs.size)
   (hf:∀ (i:Nat) (f:Field),fs[i]? = some f→DataW.trod enc P W 0 (fun _=>true) true n f.type ((cs.drop f.offset).take (P.cellsOf f.type))=xs[i]?) (hw:∀ n∈(DataW.agg (xs.map (·.1))).weights P t,n≤reachBytes)
   (i o c:Nat) (f:Field) (hi:fs[i]? = some f) (ho:f.offset=o) (hc:P.cellsOf f.type=c) (hr:Rd P f.type cells ok):∃ y:α,(cs.drop o).take c=cells y∧ok Any W y:=by
 subst ho;subst hc
 have hlt:i<xs.length:=by rw[hlen];exact(Array.getElem?_eq_some_iff.1 hi).1
 have h1:=hf i f hi
 rw[List.getElem?_eq_getElem hlt]at h1
 refine hr H enc W n _ _ h1 (fun q hq=>hw q ?_)
 simp only[DataW.weights,ht]
 exact DataW.weights_mem_each (j:=i) (t:=f.type) (d:=(xs[i]).1) (by rw[List.getElem?_map];simp only[Array.getElem?_toList,hi];rfl) (by simp[hlt]) q hq
theorem cs1{cs:List Value}(h:cs.length=1):∃ a,cs=[a]:=match cs,h with | [a],_=>⟨a,rfl⟩
theorem rd_arg{H:Type}{enc:TypeId×Value→H}{W:World}{base j:Nat}{α:Type}{cells:α→List Value}{ok:(Nat→Prop)→World→α→Prop}{fs:Array Field}{v:Value}{d:DataW H}{p:List MemPlace}{ts:List TypeId}{ds:List (DataW H)}
   (hr:Rd P t cells ok) (ht:P.underlying t=some (.struct fs)) (hv:Value.okWide P W .any base t v) (h:DataW.Trod enc P W 0 (fun _=>true) true t v d p) (hsz:(DataW.weightsEach P ts ds).all (· ≤ reachBytes)=true) (hj:ts[j]? = some t) (hd:ds[j]? = some d):∃ a:α,v = .agg (cells a).toArray∧ok Any W a:=by
 obtain⟨arr,rfl, -⟩:=okWide_struct ht hv
 obtain⟨fuel,h⟩:=h
 obtain⟨a,ha,hok⟩:=hr H enc W fuel _ _ h (fun n hn=>by have:=List.all_eq_true.1 hsz _ (DataW.weights_mem_each hj hd n hn);simpa using this)
 refine⟨a, ?_,hok⟩
 have ha':arr.toList=cells a:=ha
 rw[←ha']
theorem rd_arg1{H:Type}{enc:TypeId×Value→H}{W:World}{j:Nat}{α:Type}{V:α→Value}{ok:(Nat→Prop)→World→α→Prop}{v:Value}{d:DataW H}{p:List MemPlace}{ts:List TypeId}{ds:List (DataW H)}
   (hr:Rd P t (fun x=>[V x]) ok) (hna:v.cells = #[v]) (h:DataW.Trod enc P W 0 (fun _=>true) true t v d p) (hsz:(DataW.weightsEach P ts ds).all (· ≤ reachBytes)=true) (hj:ts[j]? = some t) (hd:ds[j]? = some d):∃ a:α,v=V a∧ok Any W a:=by
 obtain⟨fuel,h⟩:=h
 rw[hna]at h
 obtain⟨a,ha,hok⟩:=hr H enc W fuel _ _ h (fun n hn=>by have:=List.all_eq_true.1 hsz _ (DataW.weights_mem_each hj hd n hn);simpa using this)
 simp only[List.cons.injEq,and_true]at ha
 exact⟨a,ha,hok⟩
end
open Go Go.Lib Go.Proofs.Ytlhjneaafhoipaa.Mem
section
variable {P:Program}{N:Nat}{env:Env}{ds:List Deferred}{A:AW}{ops:Array Oper}{l:List Oper}{s:List Kt}{Q:Exit→Act→World→Prop}{c:Code}
def IW(P:Program)(N:Nat)(ops:Array Oper)(env:Env):List Oper→Option (Nat×Nat×Nat×TypeId×Option Nat)
 | []=>none
 | o :: _=>match o.op,NM ops env o,JZ env o,NZ N o.dst with
  | .convert src dst x,some true,true,true=>match Nat.beq src dst,P.underlying src,GR env x with
   | true,some (.slice e),.slice (some ⟨b,0,none⟩) n cap=>match P.underlying e with
    | some (.int .u8)=>some (b,n,cap,e,o.dst)
    | _=>none
   | _,_,_=>none
  | _,_,_,_=>none
end
open Go Go.Lib Go.Proofs.Ytlhjneaafhoipaa.Mem
theorem e_eqA{P:Program}{N:Nat}{env:Env}{ds:List Deferred}{A:AW}{s:List Kt}{Q:Exit→Act→World→Prop}{x:Exit}(A':AW)(h:A=A')(K:E P N env ds A' x s Q):E P N env ds A x s Q:=h ▸ K
section
variable {P:Program}{N:Nat}{env:Env}{ds:List Deferred}{A:AW}{ops:Array Oper}{l:List Oper}{s:List Kt}{Q:Exit→Act→World→Prop}
theorem e_blkrow{α:Type}{x:Exit}(i b base:Nat)(e:TypeId)(sz:Nat)(cells:α→List Value)(xs:List α)(cs:Array Value)(hb:base≤b)(K:E P N env ds { A with σ:=A.σ.set i (AV base e sz cells (.slice (some ⟨b,0,none⟩) xs.length xs.length) xs) } x s Q)(hi:A.σ[i]? = some (.blk b (.cells cs e (0,0)) true):=by rfl)(hx:xs.flatMap cells=cs.toList:=by rfl)(hl:cs.size=xs.length*sz:=by rfl)(hm:Nat.ble xs.length 1000=true:=by rfl):E P N env ds A x s Q :=
 fun a w hst=>K a w ⟨hst.sz,hst.df,hst.kn,hst.mem.blkrow hi hx hl hb (Nat.le_trans (Nat.le_of_ble_eq_true hm) (by decide))⟩
end
end Go.Proofs.Ytlhjneaafhoipaa.Eng
namespace Go.Proofs.Ytlhjneaafhoipaa.Ly
open Go Go.Proofs.Ytlhjneaafhoipaa.Eng Go.Proofs.Ytlhjneaafhoipaa.Mem
set_option linter.unusedSimpArgs false
set_option linter.unusedVariables false
set_option maxRecDepth 100000
def OT{α:Type}(s:Sl α):Sl α:=⟨none,0,s.xs⟩
def Ii(x:Ah):Ah:={ x with Ag:=OT x.Ag,Ai:=OT x.Ai }
def strip(c:Af):Af:={ c with Az:=⟨none,0,c.Az.xs.map OT⟩,Aa:=⟨none,0,c.Aa.xs.map Ii⟩,Ac:=OT c.Ac }
theorem Vo{α β:Type}[Inhabited α][Inhabited β]{f:α→β}(h:f default=default)(xs:List α)(k:Nat):gd (xs.map f) k=f (gd xs k):=by
 unfold gd
 rw[List.getD_eq_getElem?_getD,List.getD_eq_getElem?_getD,List.getElem?_map]
 cases xs[k]? with
 | none=>exact h.symm
 | some x=>rfl
section
variable {c:Af}
theorem Rz(p:Nat):gd (strip c).Aa.xs p=Ii (gd c.Aa.xs p):=Vo (by rfl) _ _
theorem str_c(p:Nat):gd (strip c).Az.xs p=OT (gd c.Az.xs p):=Vo (by rfl) _ _
theorem Kv:(strip c).Aa.xs.length=c.Aa.xs.length:=List.length_map _
theorem Zaa:(strip c).Az.xs.length=c.Az.xs.length:=List.length_map _
theorem Vu(k:Nat)(b:Bool):Gx (strip c) k b=Gx c k b:=by
 unfold Gx Ew
 rw[Kv]
 show((List.take _ (c.Aa.xs.map Ii)).map _).sum=_
 rw[←List.map_take,List.map_map];rfl
theorem MB:BZ (strip c)=BZ c:=by
 unfold BZ
 rw[Kv,show(strip c).Aa.xs.all (CV (strip c).Ac.xs.length)=c.Aa.xs.all (CV c.Ac.xs.length)from by
  show(c.Aa.xs.map Ii).all _=_
  rw[List.all_map];rfl]
 have h:KA (strip c)=KA c:=by
  funext k;unfold KA;rw[Vu,Vu];rfl
 rw[h];rfl
theorem OQ(k:Int)(b:Bool):Ba (strip c) k b=Ba c k b:=by
 unfold Ba Bv
 rw[Kv]
 congr 1
 funext p
 rw[Rz];rfl
theorem PX:∀ k,Bc (strip c) k=Bc c k
 | 0=>by show Bi _ _=Bi _ _;unfold Bi;rw[Kv];rfl
 | k+1=>by
  show Bc (strip c) k+cLen (strip c) k=Bc c k+cLen c k
  rw[PX k]
  unfold cLen Gg
  rw[OQ];rfl
theorem Nu:∀ k,C9 (strip c) k=C9 c k
 | 0=>by
  show JA (strip c)=JA c
  unfold JA
  rw[PX];rfl
 | k+1=>by
  show C9 (strip c) k+1+(Fq (gd (strip c).Aa.xs k):Int)=C9 c k+1+(Fq (gd c.Aa.xs k):Int)
  rw[Nu k,Rz];rfl
theorem Wh:Gi (strip c)=Gi c:=by unfold Gi;rw[MB,Kv,Nu];rfl
theorem X3:errOf (strip c)=errOf c:=by unfold errOf;rw[MB]
theorem Xv(k:Nat):Bi (strip c) k=Bi c k:=rfl
theorem V4(k:Nat):Gg (strip c) k=Gg c k:=by unfold Gg;rw[OQ]
theorem X6(k j:Nat):F9 (strip c) k j=F9 c k j:=by unfold F9;rw[PX];rfl
theorem V3(k j:Nat):D8 (strip c) k j=D8 c k j:=by
 unfold D8
 have h:KH (strip c) k=KH c k:=by funext d;unfold KH;rw[OQ,X6]
 rw[h]
theorem Vq(p:Nat)(s:Sl Int):Ey (strip c) p s=Ey c p s:=by unfold Ey;rw[Xv,Nu]
theorem VK(p n:Nat):DY (strip c) p n=DY c p n:=by unfold DY;rw[Nu]
theorem Um(k:Nat)(s:Sl AL):GK (strip c) k s=GK c k s:=by unfold GK;rw[PX,OQ]
theorem Vw{L:Bj}:Lm (strip c) L↔Lm c L:=by
 constructor
 ·rintro⟨h1,h2,h3,h4,h5,h6⟩
  refine⟨h1,by rw[h2,Kv,Nu],by rw[h3,Kv],fun p hp => ?_,h5,fun k hk => ?_⟩
  ·obtain⟨a,cp,e⟩:=h4 p (by rw[Kv];exact hp)
   exact⟨a,cp,by rw[e,Vq,VK,Rz];rfl⟩
  obtain⟨a,cp,e⟩:=h6 k hk
  exact⟨a,cp,by rw[e,Um,V3,V4]⟩
 rintro⟨h1,h2,h3,h4,h5,h6⟩
 refine⟨h1,by rw[h2,Kv,Nu],by rw[h3,Kv],fun p hp => ?_,h5,fun k hk => ?_⟩
 ·obtain⟨a,cp,e⟩:=h4 p (by rw[Kv]at hp;exact hp)
  exact⟨a,cp,by rw[e,Vq,VK,Rz];rfl⟩
 obtain⟨a,cp,e⟩:=h6 k hk
 exact⟨a,cp,by rw[e,Um,V3,V4]⟩
theorem Yx:AU (strip c)=AU c:=by
 have hP:GM (strip c)=GM c:=by funext i;unfold GM;rw[Xv]
 have hD:∀ k e j,Ku (strip c) k e j=Ku c k e j:=fun k e j=>by unfold Ku;rw[X6];rfl
 have hC:Ny (strip c)=Ny c:=by
  funext k
  unfold Ny Gm
  rw[PX,OQ]
  have:(fun j=>Ku (strip c) k (gd (Ba c (k:Int) false) j) j)=fun j=>Ku c k (gd (Ba c (k:Int) false) j) j:=by funext j;exact hD _ _ _
  rw[this];rfl
 have hT:∀ p n,D5 (strip c) p n=D5 c p n:=fun p n=>by unfold D5;rw[Nu]
 have hT2:(fun p=>D5 (strip c) p (1+Fq (gd (strip c).Aa.xs p)))=fun p=>D5 c p (1+Fq (gd c.Aa.xs p)):=by
  funext p;rw[hT,Rz];rfl
 unfold AU Ei DW KG
 rw[hP,hC,hT2,Kv];rfl
theorem XI(fr:Int):Hw (strip c) fr=Hw c fr:=by
 unfold Hw
 have:(fun p=>TC fr (gd (strip c).Aa.xs p))=fun p=>TC fr (gd c.Aa.xs p):=by funext p;rw[Rz];rfl
 rw[this,Kv]
theorem YT(a:Int):KL (strip c) a=KL c a:=by unfold KL;rw[Yx,XI]
theorem VR(a:Int):IV (strip c) a=IV c a:=by unfold IV;rw[MB,YT];rfl
theorem WE(a:Int):KN (strip c) a=KN c a:=by unfold KN;rw[MB];rfl
end
theorem Zx{c d:Af}(h:strip c=strip d){L:Bj}(hl:Lm c L):Lm d L:=Vw.1 (h ▸ Vw.2 hl)
theorem Xy{c d:Af}(h:strip c=strip d):Gi c=Gi d:=by rw[←Wh,h,Wh]
theorem TU{c d:Af}(h:strip c=strip d):errOf c=errOf d:=by rw[←X3,h,X3]
theorem Zm{c d:Af}(h:strip c=strip d):BZ c=BZ d:=by rw[←MB,h,MB]
theorem XE{c d:Af}(h:strip c=strip d)(a:Int):IV c a=IV d a:=by rw[←VR,h,VR]
theorem XB{c d:Af}(h:strip c=strip d)(a:Int):KN c a=KN d a:=by rw[←WE,h,WE]
theorem Uh{c d:Af}(h:strip d=strip c):d.Az.xs.length=c.Az.xs.length∧d.Aa.xs.length=c.Aa.xs.length∧d.Ac.xs=c.Ac.xs∧(∀ i,(gd d.Az.xs i).xs=(gd c.Az.xs i).xs)∧∀ i,Ii (gd d.Aa.xs i)=Ii (gd c.Aa.xs i):=by
 refine⟨?_, ?_, ?_,fun i => ?_,fun i => ?_⟩
 ·rw[←Zaa (c:=d),h,Zaa]
 ·rw[←Kv (c:=d),h,Kv]
 ·show(strip d).Ac.xs=(strip c).Ac.xs
  rw[h]
 ·have e1:=str_c (c:=d) i
  have e2:=str_c (c:=c) i
  rw[h]at e1
  have:=congrArg Sl.xs (e1.symm.trans e2)
  exact this
 have e1:=Rz (c:=d) i
 have e2:=Rz (c:=c) i
 rw[h]at e1
 exact e1.symm.trans e2
theorem Yk{c d:Af}(h0:d.Frames=c.Frames∧d.Dz=c.Dz∧d.Kernel=c.Kernel∧d.Room=c.Room)(h1:d.Az.xs.length=c.Az.xs.length)(h2:d.Aa.xs.length=c.Aa.xs.length)(h3:d.Ac.xs=c.Ac.xs)(h4:∀ i,i<c.Az.xs.length→(gd d.Az.xs i).xs=(gd c.Az.xs i).xs)(h5:∀ i,i<c.Aa.xs.length→Ii (gd d.Aa.xs i)=Ii (gd c.Aa.xs i)):strip d=strip c:=by
 have e1:d.Az.xs.map OT=c.Az.xs.map OT:=by
  apply List.ext_getElem (by simpa using h1)
  intro i hi hi'
  have:=h4 i (by simpa using hi')
  rw[DC (by simpa using hi),DC (by simpa using hi')]at this
  simp[OT,this]
 have e2:d.Aa.xs.map Ii=c.Aa.xs.map Ii:=by
  apply List.ext_getElem (by simpa using h2)
  intro i hi hi'
  have:=h5 i (by simpa using hi')
  rw[DC (by simpa using hi),DC (by simpa using hi')]at this
  simpa using this
 obtain⟨f1,f2,f3,f4⟩:=h0
 unfold strip
 rw[e1,e2,f1,f2,f3,f4]
 simp only[OT,h3]
structure Ih where
 Az:Sl (Sl Am)
 FD:Sl (Sl Am)
 Aa:Sl Ah
 Ag:Sl (Sl Ar)
 Ai:Sl (Sl AC)
 Ac:Sl Aw
 deriving Inhabited
def Ih.cells(x:Ih):List Value:=[x.Az.val,x.FD.val,x.Aa.val,x.Ag.val,x.Ai.val,x.Ac.val]
abbrev Ih.arr(x:Ih):Array Value:= #[.slice x.Az.a x.Az.xs.length x.Az.cap,.slice x.FD.a x.FD.xs.length x.FD.cap,.slice x.Aa.a x.Aa.xs.length x.Aa.cap,.slice x.Ag.a x.Ag.xs.length x.Ag.cap,.slice x.Ai.a x.Ai.xs.length x.Ai.cap,.slice x.Ac.a x.Ac.xs.length x.Ac.cap]
def Gh(k:Nat):Am:=⟨-70 - (k:Int),0,0⟩
def JC(k:Nat):Ar:=⟨-70 - (k:Int),0,0,0⟩
def KI(k:Nat):AC:=⟨-70 - (k:Int),false⟩
def GY(k:Nat):Aw:=⟨-70 - (k:Int),0,0⟩
def Gj(k:Nat):Ah:=⟨⟨#[]⟩, -70 - (k:Int),0,0,0,0,⟨none,0,[]⟩,⟨none,0,[]⟩⟩
def BL{α:Type}(f:Nat→α)(n:Nat):List α:=(List.range n).map f
def wid{α:Type}(f:Nat→α)(xs:List α):List α:=xs++BL f 12
section
variable {α:Type}{f:Nat→α}{xs:List α}
theorem Dv{n:Nat}:(BL f n).length=n:=by simp[BL]
theorem Rn:BL f 0=[]:=rfl
theorem QV{n:Nat}:BL f (n+1)=BL f n++[f n]:=by unfold BL;rw[List.range_succ,List.map_append];rfl
theorem Nc:(wid f xs).length=xs.length+12:=by simp[wid,Dv]
theorem TJ:(wid f xs).take xs.length=xs:=by unfold wid;exact List.take_left
end
theorem Nw{α:Type}[Inhabited α]{xs:List α}{y:α}{n:Nat}(h:xs.length=n):gd (xs++[y]) n=y:=by subst h;exact Xn
theorem XP{α:Type}[Inhabited α]{a b:List α}{k:Nat}(h:k<a.length):gd (a++b) k=gd a k:=by
 rw[DC (by simp;omega),DC h,List.getElem_append_left h]
theorem UN{α:Type}[Inhabited α]{a b:List α}{k n:Nat}(h:n=a.length+k)(hk:k<b.length):gd (a++b) n=gd b k:=by
 subst h
 rw[DC (by simp;omega),DC hk,List.getElem_append_right (by omega)];congr 1;omega
theorem YJ{α:Type}[Inhabited α]{f:Nat→α}{n k:Nat}(h:k<n):gd (BL f n) k=f k:=Td h
theorem XO{α:Type}[Inhabited α]{xs:List α}{k:Nat}(h:k<xs.length):gd xs k∈xs:=by rw[DC h];exact List.getElem_mem _
theorem VL{α:Type}[Inhabited α]{f:Nat→α}{xs:List α}{k:Nat}(h:k<xs.length):gd (wid f xs) k=gd xs k:=XP h
theorem U0{α:Type}[Inhabited α]{f:Nat→α}{xs:List α}{k n:Nat}(h:n=xs.length+k)(h2:k<12):gd (wid f xs) n=f k:=by
 unfold wid;rw[UN h (by rw[Dv];exact h2),YJ h2]
structure Vg(c:Af)(i:Nat)(cs ws:List (Sl Am)):Prop where
 l1:cs.length=i
 l2:ws.length=i
 c1:∀ q,q<i→gd cs q=⟨(gd ws q).a,(gd ws q).cap - 0,(gd c.Az.xs q).xs⟩
 w1:∀ q,q<i→(gd ws q).xs=wid Gh (gd c.Az.xs q).xs
structure UF(c:Af)(i:Nat)(ps:List Ah)(rs:List (Sl Ar))(qs:List (Sl AC)):Prop where
 l1:ps.length=i
 l2:rs.length=i
 l3:qs.length=i
 p1:∀ q,q<i→gd ps q={ gd c.Aa.xs q with Ag:=⟨(gd rs q).a,(gd rs q).cap - 0,(gd c.Aa.xs q).Ag.xs⟩,Ai:=⟨(gd qs q).a,(gd qs q).cap - 0,(gd c.Aa.xs q).Ai.xs⟩ }
 r1:∀ q,q<i→(gd rs q).xs=wid JC (gd c.Aa.xs q).Ag.xs
 q1:∀ q,q<i→(gd qs q).xs=wid KI (gd c.Aa.xs q).Ai.xs
def Xb(k:Nat)(sp:List (Sl Am)):Prop:=sp.length=k∧∀ q,q<k→(gd sp q).xs=[Gh q]
theorem sp_nil:Xb 0 []:=⟨rfl,fun q h=>absurd h (Nat.not_lt_zero q)⟩
theorem sp_in{sp:List (Sl Am)}{k:Nat}(h:Xb k sp){a:Option Addr}{cap:Nat}:Xb (k+1) (sp++[⟨a,cap,[Gh k]⟩]):=by
 obtain⟨l1,s1⟩:=h
 refine⟨by rw[List.length_append,l1];rfl,fun q hq => ?_⟩
 by_cases e:q=k
 ·subst e;rw[Nw l1]
 rw[LK (by omega)];exact s1 q (by omega)
section
variable {c:Af}{i:Nat}
theorem cor_nil:Vg c 0 [] []:=⟨rfl,rfl,fun q h=>absurd h (Nat.not_lt_zero q),fun q h=>absurd h (Nat.not_lt_zero q)⟩
theorem cor_in{cs ws:List (Sl Am)}(h:Vg c i cs ws){a:Option Addr}{cap:Nat}{y:Sl Am}(hy:y=gd c.Az.xs i){xs:List Am}(hx:xs=wid Gh y.xs):Vg c (i+1) (cs++[⟨a,cap - 0,y.xs⟩]) (ws++[⟨a,cap,xs⟩]):=by
 subst hx;subst hy
 obtain⟨l1,l2,c1,w1⟩:=h
 refine⟨by rw[List.length_append,l1];rfl,by rw[List.length_append,l2];rfl,fun q h1 => ?_,fun q h1 => ?_⟩
 ·by_cases e:q=i
  ·subst e;rw[Nw l1,Nw l2]
  rw[LK (by omega),LK (by omega)];exact c1 q (by omega)
 by_cases e:q=i
 ·subst e;rw[Nw l2]
 rw[LK (by omega)];exact w1 q (by omega)
theorem prt_nil:UF c 0 [] [] []:=⟨rfl,rfl,rfl,fun q h=>absurd h (Nat.not_lt_zero q),fun q h=>absurd h (Nat.not_lt_zero q),fun q h=>absurd h (Nat.not_lt_zero q)⟩
theorem prt_in{ps:List Ah}{rs:List (Sl Ar)}{qs:List (Sl AC)}(h:UF c i ps rs qs){y:Ah}(hy:y=gd c.Aa.xs i){a a2:Option Addr}{cap cap2:Nat}{xs:List Ar}{zs:List AC}(hx:xs=wid JC y.Ag.xs)(hz:zs=wid KI y.Ai.xs):UF c (i+1) (ps++[⟨y.Name,y.Entry,y.Ef,y.Dl,y.Eg,y.DD,⟨a,cap - 0,y.Ag.xs⟩,⟨a2,cap2 - 0,y.Ai.xs⟩⟩]) (rs++[⟨a,cap,xs⟩]) (qs++[⟨a2,cap2,zs⟩]):=by
 subst hx;subst hz;subst hy
 obtain⟨l1,l2,l3,p1,r1,q1⟩:=h
 refine⟨by rw[List.length_append,l1];rfl,by rw[List.length_append,l2];rfl,by rw[List.length_append,l3];rfl,fun q h1 => ?_,fun q h1 => ?_,fun q h1 => ?_⟩
 ·by_cases e:q=i
  ·subst e;rw[Nw l1,Nw l2,Nw l3]
  rw[LK (by omega),LK (by omega),LK (by omega)];exact p1 q (by omega)
 ·by_cases e:q=i
  ·subst e;rw[Nw l2]
  rw[LK (by omega)];exact r1 q (by omega)
 by_cases e:q=i
 ·subst e;rw[Nw l3]
 rw[LK (by omega)];exact q1 q (by omega)
end
structure RM where
 aC:Option Addr
 cC:Nat
 cs:List (Sl Am)
 sp:List (Sl Am)
 aW:Option Addr
 cW:Nat
 ws:List (Sl Am)
 aP:Option Addr
 cP:Nat
 ps:List Ah
 aR:Option Addr
 cR:Nat
 rs:List (Sl Ar)
 aQ:Option Addr
 cQ:Nat
 qs:List (Sl AC)
 aH:Option Addr
 cH:Nat
structure Kr(c:Af)(M:RM):Prop where
 Ub:Vg c c.Az.xs.length M.cs M.ws
 sp:Xb 12 M.sp
 prt:UF c c.Aa.xs.length M.ps M.rs M.qs
def RG(c:Af)(M:RM):Af:=⟨c.Frames,c.Dz,c.Kernel,c.Room,⟨M.aC,M.cC - 0,M.cs⟩,⟨M.aP,M.cP - 0,M.ps⟩,⟨M.aH,M.cH - 0,c.Ac.xs⟩⟩
def Uc(c:Af)(M:RM):Ih:=⟨⟨M.aC,M.cC,M.cs++M.sp⟩,⟨M.aW,M.cW,M.ws⟩,⟨M.aP,M.cP,M.ps++BL Gj 12⟩,⟨M.aR,M.cR,M.rs⟩,⟨M.aQ,M.cQ,M.qs⟩,⟨M.aH,M.cH,wid GY c.Ac.xs⟩⟩
def Qo(n:Nat)(c:Af)(M:RM):List Ch:=[AV n 77 3 Aw.cells (.slice M.aH (wid GY c.Ac.xs).length M.cH) (wid GY c.Ac.xs),AV n 57 1 (fun x:Sl Am=>[Sl.val x]) (.slice M.aC (M.cs++M.sp).length M.cC) (M.cs++M.sp),AV n 57 1 (fun x:Sl Am=>[Sl.val x]) (.slice M.aW M.ws.length M.cW) M.ws,AA n 73 3 Am.cells M.ws,AA n 73 3 Am.cells M.sp,AV n 52 8 Ah.cells (.slice M.aP (M.ps++BL Gj 12).length M.cP) (M.ps++BL Gj 12),AV n 49 1 (fun x:Sl Ar=>[Sl.val x]) (.slice M.aR M.rs.length M.cR) M.rs,AA n 54 4 Ar.cells M.rs,AV n 50 1 (fun x:Sl AC=>[Sl.val x]) (.slice M.aQ M.qs.length M.cQ) M.qs,AA n 75 2 AC.cells M.qs]
section
variable {c d:Af}{M:RM}
theorem JR(h:Kr c M):strip (RG c M)=strip c:=by
 refine Yk ⟨rfl,rfl,rfl,rfl⟩ h.Ub.l1 h.prt.l1 rfl (fun i hi => ?_) (fun i hi => ?_)
 ·show(gd M.cs i).xs=_;rw[h.Ub.c1 i hi]
 show Ii (gd M.ps i)=_;rw[h.prt.p1 i hi];rfl
theorem mkR_same(h:strip d=strip c):Uc d M=Uc c M:=by
 obtain⟨-, -,e3, -, -⟩:=Uh h
 unfold Uc;rw[e3]
theorem Qr{x y:Ah}(h:Ii x=Ii y):x.Name=y.Name∧x.Entry=y.Entry∧x.Ef=y.Ef∧x.Dl=y.Dl∧x.Eg=y.Eg∧x.DD=y.DD∧x.Ag.xs=y.Ag.xs∧x.Ai.xs=y.Ai.xs :=
 ⟨(by have:=congrArg Ah.Name h;exact this),(by have:=congrArg Ah.Entry h;exact this),(by have:=congrArg Ah.Ef h;exact this),(by have:=congrArg Ah.Dl h;exact this),(by have:=congrArg Ah.Eg h;exact this),(by have:=congrArg Ah.DD h;exact this),(by have:=congrArg (fun x:Ah=>x.Ag.xs) h;exact this),(by have:=congrArg (fun x:Ah=>x.Ai.xs) h;exact this)⟩
theorem ZW{x y:Af}(h:strip x=strip y):x.Frames=y.Frames∧x.Dz=y.Dz∧x.Kernel=y.Kernel∧x.Room=y.Room :=
 ⟨(by have:=congrArg Af.Frames h;exact this),(by have:=congrArg Af.Dz h;exact this),(by have:=congrArg Af.Kernel h;exact this),(by have:=congrArg Af.Room h;exact this)⟩
theorem ZO(h:strip d=strip c)(hR:Kr c M):Kr d M:=by
 obtain⟨e1,e2, -,e4,e5⟩:=Uh h
 obtain⟨⟨a1,a2,a3,a4⟩,hs,⟨b1,b2,b3,b4,b5,b6⟩⟩:=hR
 refine⟨?_,hs, ?_⟩
 ·rw[e1];exact⟨a1,a2,fun q hq=>by rw[e4];exact a3 q hq,fun q hq=>by rw[e4];exact a4 q hq⟩
 rw[e2]
 refine⟨b1,b2,b3,fun q hq => ?_,fun q hq => ?_,fun q hq => ?_⟩
 ·obtain⟨x1,x2,x3,x4,x5,x6,x7,x8⟩:=Qr (e5 q)
  rw[b4 q hq];simp only[x1,x2,x3,x4,x5,x6,x7,x8]
 ·rw[(Qr (e5 q)).2.2.2.2.2.2.1];exact b5 q hq
 rw[(Qr (e5 q)).2.2.2.2.2.2.2];exact b6 q hq
theorem room_wl(h:Kr c M){i:Nat}(hi:i<c.Az.xs.length):(gd M.ws i).xs.length=(gd c.Az.xs i).xs.length+12:=by rw[h.Ub.w1 i hi,Nc]
theorem room_rl(h:Kr c M){i:Nat}(hi:i<c.Aa.xs.length):(gd M.rs i).xs.length=(gd c.Aa.xs i).Ag.xs.length+12:=by rw[h.prt.r1 i hi,Nc]
theorem room_ql(h:Kr c M){i:Nat}(hi:i<c.Aa.xs.length):(gd M.qs i).xs.length=(gd c.Aa.xs i).Ai.xs.length+12:=by rw[h.prt.q1 i hi,Nc]
end
structure UE(c:Af):Prop where
 cl:c.Az.xs.length≤2147483647
 pl:c.Aa.xs.length≤2147483647
 hl:c.Ac.xs.length≤2147483647
 ws:∀ i,i<c.Az.xs.length→(gd c.Az.xs i).xs.length≤2147483647
 rs:∀ i,i<c.Aa.xs.length→(gd c.Aa.xs i).Ag.xs.length≤2147483647
 qs:∀ i,i<c.Aa.xs.length→(gd c.Aa.xs i).Ai.xs.length≤2147483647
theorem lim_of{c d:Af}(h:UE c)(hs:strip d=strip c):UE d:=by
 obtain⟨q1,q2,q3,q4,q5⟩:=Uh hs
 refine⟨by rw[q1];exact h.cl,by rw[q2];exact h.pl,by rw[q3];exact h.hl,fun i hi => ?_,fun i hi => ?_,fun i hi => ?_⟩
 ·rw[q4];rw[q1]at hi;exact h.ws i hi
 ·rw[(Qr (q5 i)).2.2.2.2.2.2.1];rw[q2]at hi;exact h.rs i hi
 rw[(Qr (q5 i)).2.2.2.2.2.2.2];rw[q2]at hi;exact h.qs i hi
structure TL(c:Af):Prop where
 nums:Fb .i64 c.Frames∧Fb .i64 c.Dz∧Fb .i64 c.Kernel∧Fb .i64 c.Room
 ws:∀ i,i<c.Az.xs.length→∀ k,k<(gd c.Az.xs i).xs.length→∀ F W,Am.ok F W (gd (gd c.Az.xs i).xs k)
 ps:∀ i,i<c.Aa.xs.length→(gd c.Aa.xs i).Name.size≤140737488351232∧Fb .i64 (gd c.Aa.xs i).Entry∧Fb .i64 (gd c.Aa.xs i).Ef∧Fb .i64 (gd c.Aa.xs i).Dl∧Fb .i64 (gd c.Aa.xs i).Eg∧Fb .i64 (gd c.Aa.xs i).DD
 rs:∀ i,i<c.Aa.xs.length→∀ k,k<(gd c.Aa.xs i).Ag.xs.length→∀ F W,Ar.ok F W (gd (gd c.Aa.xs i).Ag.xs k)
 qs:∀ i,i<c.Aa.xs.length→∀ k,k<(gd c.Aa.xs i).Ai.xs.length→∀ F W,AC.ok F W (gd (gd c.Aa.xs i).Ai.xs k)
 hs:∀ k,k<c.Ac.xs.length→∀ F W,Aw.ok F W (gd c.Ac.xs k)
theorem num_of{c:Af}{F:Nat→Prop}{W:World}(h:Af.ok F W c):TL c:=by
 refine⟨⟨h.Frames,h.Dz,h.Kernel,h.Room⟩,fun i hi k hk F W => ?_,fun i hi => ?_,fun i hi k hk F W => ?_,fun i hi k hk F W => ?_,fun k hk F W => ?_⟩
 ·have t:=(h.Az.2 i hi).2 k hk;exact⟨t.Partition,t.LJ,t.NK⟩
 ·have t:=h.Aa.2 i hi;exact⟨t.Name,t.Entry,t.Ef,t.Dl,t.Eg,t.DD⟩
 ·have t:=(h.Aa.2 i hi).Ag.2 k hk;exact⟨t.Ci,t.CE,t.Frame,t.Lp⟩
 ·have t:=(h.Aa.2 i hi).Ai.2 k hk;exact⟨t.Channel,t.Source⟩
 have t:=h.Ac.2 k hk;exact⟨t.Kind,t.Words,t.CS⟩
theorem Zz{x:Int}(h1 : -9223372036854775808≤x)(h2:x≤9223372036854775807):Fb .i64 x:=⟨h1,h2⟩
theorem TN(x:Int):Fb .i64 (IntKind.i64.wrap x):=by
 have h : -9223372036854775808≤IntKind.i64.wrap x∧IntKind.i64.wrap x≤9223372036854775807:=by
  simp only[IntKind.wrap,IntKind.bits,IntKind.signed];simp;omega
 exact Zz h.1 h.2
theorem VI{α:Type}[Inhabited α]{f:Nat→α}{xs:List α}{p:α→Prop}(h1:∀ k,k<xs.length→p (gd xs k))(h2:∀ k,k<12→p (f k)):∀ k,k<(wid f xs).length→p (gd (wid f xs) k):=fun k hk=>by
 rw[Nc]at hk
 by_cases e:k<xs.length
 ·rw[VL e];exact h1 k e
 rw[U0 (k:=k - xs.length) (by omega) (by omega)];exact h2 _ (by omega)
theorem Tj{α:Type}{cells:α→List Value}{sz:Nat}{F:Nat→Prop}{W:World}{a:Option Addr}{cap:Nat}{xs:List α}{n:Nat}(h:Jd cells sz F W ⟨a,cap,xs⟩):Jd cells sz F W ⟨a,cap - 0,xs.take n⟩:=by
 have e:=List.take_append_drop n xs
 rw[←e]at h
 exact sl_take h
def confS(n:Nat)(C:Af):List Ch:=[AV n 57 1 (fun x:Sl Am=>[Sl.val x]) C.Az.val C.Az.xs,AA n 73 3 Am.cells C.Az.xs,AV n 52 8 Ah.cells C.Aa.val C.Aa.xs,AA n 54 4 Ar.cells (C.Aa.xs.map Ah.Ag),AA n 75 2 AC.cells (C.Aa.xs.map Ah.Ai),AV n 77 3 Aw.cells C.Ac.val C.Ac.xs]
def Xl(n:Nat)(W:World)(C:Af):Prop:=∃ w0,Sat ⟨w0,W.heap.size,confS n C⟩ W
theorem own_ok{c d:Af}{n:Nat}{W W0:World}{F:Nat→Prop}(hc:Af.ok F W0 c)(h:strip d=strip c)(ho:Xl n W d):Af.ok (New n) W d:=by
 obtain⟨w0,hs⟩:=ho
 obtain⟨h1,h2,h3,h4,h5⟩:=Uh h
 have r1:W.ownsRow n 57 1 (.slice d.Az.a d.Az.xs.length d.Az.cap) d.Az.xs.length (d.Az.xs.flatMap (fun x:Sl Am=>[Sl.val x])):=hs.at (i:=0) rfl
 have r2:(AA n 73 3 Am.cells d.Az.xs).holds W:=hs.at (i:=1) rfl
 have r3:W.ownsRow n 52 8 (.slice d.Aa.a d.Aa.xs.length d.Aa.cap) d.Aa.xs.length (d.Aa.xs.flatMap Ah.cells):=hs.at (i:=2) rfl
 have r4:(AA n 54 4 Ar.cells (d.Aa.xs.map Ah.Ag)).holds W:=hs.at (i:=3) rfl
 have r5:(AA n 75 2 AC.cells (d.Aa.xs.map Ah.Ai)).holds W:=hs.at (i:=4) rfl
 have r6:W.ownsRow n 77 3 (.slice d.Ac.a d.Ac.xs.length d.Ac.cap) d.Ac.xs.length (d.Ac.xs.flatMap Aw.cells):=hs.at (i:=5) rfl
 have nums:=congrArg (fun c:Af=>(c.Frames,c.Dz,c.Kernel,c.Room)) h
 simp only[Prod.mk.injEq]at nums
 obtain⟨n1,n2,n3,n4⟩:=nums
 have n1':d.Frames=c.Frames:=n1
 have n2':d.Dz=c.Dz:=n2
 have n3':d.Kernel=c.Kernel:=n3
 have n4':d.Room=c.Room:=n4
 refine⟨by rw[n1'];exact hc.Frames,by rw[n2'];exact hc.Dz,by rw[n3'];exact hc.Kernel,by rw[n4'];exact hc.Room,⟨?_,fun i hi => ?_⟩,⟨?_,fun i hi => ?_⟩,⟨?_,fun i hi => ?_⟩⟩
 ·exact JF (fun _=>rfl) r1 (by rw[h1];exact hc.Az.1.len)
 ·have hi':i<c.Az.xs.length:=by omega
  refine⟨OI (cells:=Am.cells) (hs:=d.Az.xs) (s:=gd d.Az.xs i) (fun _=>rfl) r2 (by rw[DC hi];exact List.getElem_mem _) (by rw[h4];exact(hc.Az.2 i hi').1.len),fun j hj => ?_⟩
  rw[h4]at hj ⊢
  have:=(hc.Az.2 i hi').2 j hj
  exact⟨this.Partition,this.LJ,this.NK⟩
 ·exact JF (fun _=>rfl) r3 (by rw[h2];exact hc.Aa.1.len)
 ·have hi':i<c.Aa.xs.length:=by omega
  have hp:=hc.Aa.2 i hi'
  have e:=h5 i
  have m1:=congrArg (fun x:Ah=>(x.Name,x.Entry,x.Ef,x.Dl,x.Eg,x.DD)) e
  simp only[Prod.mk.injEq]at m1
  obtain⟨a1,a2,a3,a4,a5,a6⟩:=m1
  have b1:(gd d.Aa.xs i).Name=(gd c.Aa.xs i).Name:=a1
  have b2:(gd d.Aa.xs i).Entry=(gd c.Aa.xs i).Entry:=a2
  have b3:(gd d.Aa.xs i).Ef=(gd c.Aa.xs i).Ef:=a3
  have b4:(gd d.Aa.xs i).Dl=(gd c.Aa.xs i).Dl:=a4
  have b5:(gd d.Aa.xs i).Eg=(gd c.Aa.xs i).Eg:=a5
  have b6:(gd d.Aa.xs i).DD=(gd c.Aa.xs i).DD:=a6
  have e1:(gd d.Aa.xs i).Ag.xs=(gd c.Aa.xs i).Ag.xs:=by have:=congrArg (fun x:Ah=>x.Ag.xs) e;exact this
  have e2:(gd d.Aa.xs i).Ai.xs=(gd c.Aa.xs i).Ai.xs:=by have:=congrArg (fun x:Ah=>x.Ai.xs) e;exact this
  have hm:gd d.Aa.xs i∈d.Aa.xs:=by rw[DC hi];exact List.getElem_mem _
  refine⟨by rw[b1];exact hp.Name,by rw[b2];exact hp.Entry,by rw[b3];exact hp.Ef,by rw[b4];exact hp.Dl,by rw[b5];exact hp.Eg,by rw[b6];exact hp.DD,⟨OI (cells:=Ar.cells) (fun _=>rfl) r4 (List.mem_map_of_mem hm) (by rw[e1];exact hp.Ag.1.len),fun j hj => ?_⟩,⟨OI (cells:=AC.cells) (fun _=>rfl) r5 (List.mem_map_of_mem hm) (by rw[e2];exact hp.Ai.1.len),fun j hj => ?_⟩⟩
  ·rw[e1]at hj ⊢
   have:=hp.Ag.2 j hj
   exact⟨this.Ci,this.CE,this.Frame,this.Lp⟩
  rw[e2]at hj ⊢
  have:=hp.Ai.2 j hj
  exact⟨this.Channel,this.Source⟩
 ·exact JF (fun _=>rfl) r6 (by rw[h3];exact hc.Ac.1.len)
 rw[h3]at hi ⊢
 have:=hc.Ac.2 i hi
 exact⟨this.Kind,this.Words,this.CS⟩
theorem snoc_all{α:Type}{i:Nat}{xs:List (Sl α)}{y:Sl α}{g:Nat→List α}(h:∀ q,q<i→(gd xs q).xs=g q)(hl:xs.length=i)(hy:y.xs=g i):∀ q,q<i+1→(gd (xs++[y]) q).xs=g q:=fun q hq=>by
 by_cases e:q=i
 ·subst e;rw[Nw hl];exact hy
 rw[LK (by omega)];exact h q (by omega)
theorem snoc_all2{i:Nat}{xs:List Ah}{y:Ah}{g:Nat→Ah}(h:∀ q,q<i→Ii (gd xs q)=g q)(hl:xs.length=i)(hy:Ii y=g i):∀ q,q<i+1→Ii (gd (xs++[y]) q)=g q:=fun q hq=>by
 by_cases e:q=i
 ·subst e;rw[Nw hl];exact hy
 rw[LK (by omega)];exact h q (by omega)
section
variable (z:Nat)(c:Af)(aC:Option Addr)(csG:List (Sl Am))(cC:Nat)(ax39:Option Addr)(psG:List Ah)(y30:Ah)(ax31:Option Addr)(cp32:Nat)(ax35:Option Addr)(cp36 cp40:Nat)(ax16 ax12:Option Addr)(cp13:Nat)(y11:Sl Am)(cp17 n21 n37:Nat)(aP:Option Addr)(cP:Nat)
abbrev Su:Ch:= .blk (z+2) (.cells #[i6 c.Frames,i6 c.Dz,i6 c.Kernel,i6 c.Room,.slice aC csG.length cC,.slice ax39 ((psG++[(⟨y30.Name,y30.Entry,y30.Ef,y30.Dl,y30.Eg,y30.DD,(⟨ax31,cp32,([]++y30.Ag.xs)⟩:Sl Ar),(⟨ax35,cp36,([]++y30.Ai.xs)⟩:Sl AC)⟩:Ah)]).length) cp40,.slice c.Ac.a c.Ac.xs.length c.Ac.cap] 26 (0,0)) true
abbrev Yw:Ch:= .blk (z+2) (.cells #[i6 c.Frames,i6 c.Dz,i6 c.Kernel,i6 c.Room,.slice ax16 ((csG++[(⟨ax12,cp13,([]++y11.xs)⟩:Sl Am)]).length) cp17,.slice c.Aa.a c.Aa.xs.length c.Aa.cap,.slice c.Ac.a c.Ac.xs.length c.Ac.cap] 26 (0,0)) true
abbrev SL:=bk n21 #[.string y30.Name,i6 y30.Entry,i6 y30.Ef,i6 y30.Dl,i6 y30.Eg,i6 y30.DD,.slice ax31 (([]++y30.Ag.xs).length) cp32,.slice ax35 (([]++y30.Ai.xs).length) cp36] 52
abbrev TD:=bk n37 #[.string y30.Name,i6 y30.Entry,i6 y30.Ef,i6 y30.Dl,i6 y30.Eg,i6 y30.DD,.slice ax31 (([]++y30.Ag.xs).length) cp32,.slice ax35 (([]++y30.Ai.xs).length) cp36] 52
abbrev Ur:=bk (z+2) #[i6 c.Frames,i6 c.Dz,i6 c.Kernel,i6 c.Room,.slice aC csG.length cC,.slice c.Aa.a c.Aa.xs.length c.Aa.cap,.slice c.Ac.a c.Ac.xs.length c.Ac.cap] 26
abbrev QN:=bk (z+2) #[i6 c.Frames,i6 c.Dz,i6 c.Kernel,i6 c.Room,.slice aC csG.length cC,.slice aP psG.length cP,.slice c.Ac.a c.Ac.xs.length c.Ac.cap] 26
abbrev IR:=bk (z+1) #[i6 0,i6 0,i6 0,i6 0,.slice none 0 0,.slice none 0 0,.slice none 0 0] 26
abbrev Iz:=bk z (Af.arr c) 26
abbrev Sv:=AV z 52 8 Ah.cells (.slice ax39 ((psG++[(⟨y30.Name,y30.Entry,y30.Ef,y30.Dl,y30.Eg,y30.DD,(⟨ax31,cp32,([]++y30.Ag.xs)⟩:Sl Ar),(⟨ax35,cp36,([]++y30.Ai.xs)⟩:Sl AC)⟩:Ah)]).length) cp40) (psG++[(⟨y30.Name,y30.Entry,y30.Ef,y30.Dl,y30.Eg,y30.DD,(⟨ax31,cp32,([]++y30.Ag.xs)⟩:Sl Ar),(⟨ax35,cp36,([]++y30.Ai.xs)⟩:Sl AC)⟩:Ah)])
abbrev Ym:=AV z 57 1 (fun x:Sl Am=>[Sl.val x]) (.slice ax16 ((csG++[(⟨ax12,cp13,([]++y11.xs)⟩:Sl Am)]).length) cp17) (csG++[(⟨ax12,cp13,([]++y11.xs)⟩:Sl Am)])
abbrev Vb:=AV z 54 4 Ar.cells (.slice ax31 (([]++y30.Ag.xs).length) cp32) ([]++y30.Ag.xs)
abbrev SB:=AV z 75 2 AC.cells (.slice ax35 (([]++y30.Ai.xs).length) cp36) ([]++y30.Ai.xs)
abbrev IK:=AV z 57 1 (fun x:Sl Am=>[Sl.val x]) (.slice aC csG.length cC) csG
abbrev NP:=AV z 52 8 Ah.cells (.slice aP psG.length cP) psG
abbrev Nq:=AA z 54 4 Ar.cells (psG.map Ah.Ag)
abbrev LM:=AA z 75 2 AC.cells (psG.map Ah.Ai)
abbrev LW:=(35,Ad c.Aa.xs.length)
abbrev Nl:=(14,Ad c.Az.xs.length)
abbrev G5:=(2,pt (z+1))
abbrev Hl:=(3,pt (z+2))
end
theorem Yu(w:World)(c:Af)(hc:Af.ok Any w c)(hLim:UE c):Calls Try.prog 14 #[.agg (Af.arr c)] w fun e w'=>∃ d:Af,e = .returned (.agg (Af.arr d))∧strip d=strip c∧Xl w.heap.size w' d∧BN (fun _=>False) w w':=by
 obtain⟨z,hz⟩:∃ z,z=w.heap.size:=⟨_,rfl⟩
 refine BV (args:=[.agg (Af.arr c)]) 71 ⟨w,z,[(Ak w)]⟩ Try.func14 rfl (by kernel_rfl) (by kernel_rfl) (Fv hz) ?_
 have hpl_:=hc.Aa.1.len;have hpc:=hc.Az.1.len;have hpch:=hc.Ac.1.len;have hll1:=hLim.cl;have hll2:=hLim.pl;have hll3:=hLim.hl
 refine Eb [0] [(0,.agg (Af.arr c))] ?_
 refine q_c 18 0 [] [[o0,o0],[(an 7 1),o0,(an 7 3)],[o0,(a1 3)],[o0,(a1 1),o0,o0]] [Qb z,Qb z,Qb z,Qb z,Qb z,Qb z,Qb z,Qb (z+2),Qb (z+2),Qb (z+2),Qb (z+2),Qb (z+2),Qb (z+2),Qb (z+2),Qb (z+2),Qb z] [(1,pt z),(G5 z),(Hl z),(Nl c),(15,i6 0)] ⟨w,z+3,[(Ak w),(Iz z c),(IR z),(bk (z+2) #[i6 c.Frames,i6 c.Dz,i6 c.Kernel,i6 c.Room,.slice none 0 0,.slice c.Aa.a c.Aa.xs.length c.Aa.cap,.slice c.Ac.a c.Ac.xs.length c.Ac.cap] 26)]⟩ rfl ⟨rfl,rfl,rfl,rfl,rfl,rfl,rfl,rfl,rfl,rfl,rfl,rfl,rfl,rfl,rfl,rfl,Ae⟩ ?_
 refine OZ z 73 3 Am.cells ?_
 refine Le z 57 1 (fun x:Sl Am=>[Sl.val x]) ?_
 refine Ce (fun m a w'=>∃ (n2:Nat) (i:Nat) (csG:List (Sl Am)) (aC:Option Addr) (cC:Nat),m=c.Az.xs.length - i∧z+3≤n2∧(i≤c.Az.xs.length)∧(csG.length=i)∧(∀ q,q<i→(gd csG q).xs=(gd c.Az.xs q).xs)∧St 71 [(1,pt z),(G5 z),(Hl z),(Nl c),(15,Ad i)] [] ⟨w,n2,[(Ak w),(Iz z c),(IR z),(Ur z c aC csG cC),(AA z 73 3 Am.cells csG),(IK z aC csG cC)]⟩ a w') (c.Az.xs.length - 0) ?_ ?_
 ·intro a w' hs;exact⟨(z+3),0,([]),none,0,rfl,Nat.le_refl _,Nat.zero_le _,rfl,fun q hq=>absurd hq (Nat.not_lt_zero q),hs⟩
 rintro m a w' ⟨n2,i,csG,aC,cC,rfl,hn1,hki,hcl,hc1,hs⟩
 refine(?_:G Try.prog 71 [(1,pt z),(G5 z),(Hl z),(Nl c),(15,Ad i)] [] ⟨w,n2,[(Ak w),(Iz z c),(IR z),(Ur z c aC csG cC),(AA z 73 3 Am.cells csG),(IK z aC csG cC)]⟩ _ _ _) a w' hs
 clear hs a w'
 refine CP ?_
 by_cases h3:(i:Int)<(c.Az.xs.length:Int)
 ·refine A8 18 0 [1] [[oT],[o0,o0],[o0]] [BT ((i:Int)<(c.Az.xs.length:Int))] [(1,pt z),(G5 z),(Hl z),(Nl c),(15,Ad i),(4,Ad i),(5,.slice none 0 0)] rfl ⟨bt,Ae⟩ ?_
  obtain⟨b4,o5,ha6,hF8,hc7⟩:=(hc.Az).1.all (show 0<c.Az.xs.length by omega)
  replace ha6:c.Az.a=some ⟨b4,o5,none⟩:=ha6
  have hc9:=hc7 i (show i<c.Az.xs.length by omega)
  have he10:=(hc.Az).2 i (show i<c.Az.xs.length by omega)
  obtain⟨y11,hy11⟩:∃ y_,y_=gd c.Az.xs i:=⟨_,rfl⟩
  rw[←hy11]at he10 hc9
  have hlw:=hLim.ws i (by omega);rw[←hy11]at hlw;have hyl:=he10.1.len
  refine A8 1 6 [] [[o0,o0,(Du 1 b4 o5 c.Az),o0,(oi i),(oa [.via 0 (.slice y11.a y11.xs.length y11.cap)])]] [Qb z,Df b4 o5 c.Az,BI i,i<c.Az.xs.length,Bq,Old w b4 (o5+i) (.slice y11.a y11.xs.length y11.cap)] [(1,pt z),(G5 z),(Hl z),(Nl c),(15,Ad i),(18,.slice none 0 0),(23,.slice y11.a y11.xs.length y11.cap)] rfl ⟨rfl,Dh ha6,rfl,(by omega),rfl,BA (hc9 0 _ rfl),Ae⟩ ?_
  refine Pn z 73 3 Am.cells ?_
  refine O3 z 6 0 ([]) y11.xs y11.a Am.cells 73 3 24 (.slice none 0 0) y11.xs.length y11.cap (Ak w) (some 24) (by(try simp only[List.length_cons,List.length_nil,List.nil_append,List.length_append,Dv]);omega) (show z≤n2 by omega) (fun w' hw=>O9 (fun b k v _ hv=>BA hv w' hw) (fun _ h=>h) (he10).1) (fun ax12 cp13 n14 (hn15:n2≤n14) => ?_)
  refine Hu 3 4 [] [[o0],[o0,(a1 3),o0,o0]] [Qb (z+2)] [(1,pt z),(G5 z),(Hl z),(Nl c),(15,Ad i),(26,.slice aC csG.length cC),(28,.slice (some ⟨n14,0,none⟩) 1 1)] ⟨w,n14+1,[(Ak w),(Iz z c),(IR z),(Ur z c aC csG cC),(AA z 73 3 Am.cells csG),(IK z aC csG cC),(AV z 73 3 Am.cells (.slice ax12 (([]++y11.xs).length) cp13) ([]++y11.xs)),(bk n14 #[.slice ax12 (([]++y11.xs).length) cp13] 57)]⟩ rfl ⟨rfl,Ae⟩ ?_
  refine Fe z 5 7 csG [(⟨ax12,cp13,([]++y11.xs)⟩:Sl Am)] (fun x:Sl Am=>[Sl.val x]) 57 1 24 (.slice aC csG.length cC) n14 1 1 #[.slice ax12 (([]++y11.xs).length) cp13] 57 (0,0) true (some 29) (by(try simp only[List.length_cons,List.length_nil,List.nil_append,List.length_append,Dv]);omega) (show z≤n14+1 by omega) (fun ax16 cp17 n18 (hn19:n14+1≤n18) => ?_)
  refine Hu 5 0 [] [[o0,(a1 3)],[(ov (i6 ((i+1:Nat):Int))),o0]] [Qb (z+2),Wr ((i:Int)+1) (((i+1:Nat):Int))] [(1,pt z),(G5 z),(Hl z),(Nl c),(15,i6 ((i+1:Nat):Int))] ⟨w,n18,[(Ak w),(Iz z c),(IR z),(Yw z c csG ax16 ax12 cp13 y11 cp17),(AA z 73 3 Am.cells csG),(Ym z csG ax16 ax12 cp13 y11 cp17),(AV z 73 3 Am.cells (.slice ax12 (([]++y11.xs).length) cp13) ([]++y11.xs)),(bk n14 #[.slice ax12 (([]++y11.xs).length) cp13] 57)]⟩ rfl ⟨rfl,Be,Ae⟩ ?_
  refine Qk 4 6 [0,1,2,3,5,7] (a:=ax12) (cap:=cp13) (xs:=([]++y11.xs)) [(Ak w),(Iz z c),(IR z),(Yw z c csG ax16 ax12 cp13 y11 cp17),(Ym z csG ax16 ax12 cp13 y11 cp17),(bk n14 #[.slice ax12 (([]++y11.xs).length) cp13] 57)] ?_
  refine BO [0,1,2,3,6,4] [(Ak w),(Iz z c),(IR z),(Yw z c csG ax16 ax12 cp13 y11 cp17),(AA z 73 3 Am.cells (csG++[⟨ax12,cp13,([]++y11.xs)⟩])),(Ym z csG ax16 ax12 cp13 y11 cp17)] rfl rfl ?_
  refine Dp [1,2,3,14,15] [(1,pt z),(G5 z),(Hl z),(Nl c),(15,i6 ((i+1:Nat):Int))] ?_
  refine Bz (fun a w' hs=>⟨c.Az.xs.length - (i+1),by omega,n18,(i+1),(csG++[⟨ax12,cp13,([]++y11.xs)⟩]),ax16,cp17,rfl,by omega,by omega,by rw[List.length_append,hcl];rfl,snoc_all hc1 hcl (by rw[←hy11];rfl),hs⟩)
 refine q_c 20 0 [0] [[oF],[o0,(a1 3)],[o0,(a1 1),o0,o0]] [BF ((i:Int)<(c.Az.xs.length:Int)),Qb (z+2),Qb z] [(1,pt z),(G5 z),(Hl z),(LW c),(36,i6 0)] ⟨w,n2,[(Ak w),(Iz z c),(IR z),(bk (z+2) #[i6 c.Frames,i6 c.Dz,i6 c.Kernel,i6 c.Room,.slice aC csG.length cC,.slice none 0 0,.slice c.Ac.a c.Ac.xs.length c.Ac.cap] 26),(AA z 73 3 Am.cells csG),(IK z aC csG cC)]⟩ rfl ⟨bf,rfl,rfl,Ae⟩ ?_
 refine OZ z 54 4 Ar.cells ?_
 refine OZ z 75 2 AC.cells ?_
 refine Le z 52 8 Ah.cells ?_
 refine Ce (fun m a w'=>∃ (n21:Nat) (p:Nat) (psG:List Ah) (aP:Option Addr) (cP:Nat),m=c.Aa.xs.length - p∧n2≤n21∧(p≤c.Aa.xs.length)∧(psG.length=p)∧(∀ q,q<p→Ii (gd psG q)=Ii (gd c.Aa.xs q))∧St 71 [(1,pt z),(G5 z),(Hl z),(LW c),(36,Ad p)] [] ⟨w,n21,[(Ak w),(Iz z c),(IR z),(QN z c aC csG cC psG aP cP),(AA z 73 3 Am.cells csG),(IK z aC csG cC),(Nq z psG),(LM z psG),(NP z psG aP cP)]⟩ a w') (c.Aa.xs.length - 0) ?_ ?_
 ·intro a w' hs;exact⟨n2,0,([]),none,0,rfl,Nat.le_refl _,Nat.zero_le _,rfl,fun q hq=>absurd hq (Nat.not_lt_zero q),hs⟩
 rintro m a w' ⟨n21,p,psG,aP,cP,rfl,hn20,hkp,hpl,hp1,hs⟩
 refine(?_:G Try.prog 71 [(1,pt z),(G5 z),(Hl z),(LW c),(36,Ad p)] [] ⟨w,n21,[(Ak w),(Iz z c),(IR z),(QN z c aC csG cC psG aP cP),(AA z 73 3 Am.cells csG),(IK z aC csG cC),(Nq z psG),(LM z psG),(NP z psG aP cP)]⟩ _ _ _) a w' hs
 clear hs a w'
 refine CP ?_
 by_cases h22:(p:Int)<(c.Aa.xs.length:Int)
 ·refine A8 14 0 [1] [[oT],[o0,o0]] [BT ((p:Int)<(c.Aa.xs.length:Int))] [(1,pt z),(G5 z),(Hl z),(LW c),(36,Ad p),(6,Ad p)] rfl ⟨bt,Ae⟩ ?_
  obtain⟨b23,o24,ha25,hF27,hc26⟩:=(hc.Aa).1.all (show 0<c.Aa.xs.length by omega)
  replace ha25:c.Aa.a=some ⟨b23,o24,none⟩:=ha25
  have hc28:=hc26 p (show p<c.Aa.xs.length by omega)
  have he29:=(hc.Aa).2 p (show p<c.Aa.xs.length by omega)
  obtain⟨y30,hy30⟩:∃ y_,y_=gd c.Aa.xs p:=⟨_,rfl⟩
  rw[←hy30]at he29 hc28
  have hlr:=hLim.rs p (by omega);have hlq:=hLim.qs p (by omega);rw[←hy30]at hlr hlq
  refine q_c 9 3 [] [[o0,(Du 1 b23 o24 c.Aa),o0,(oi p),(ol 0 (Ah.arr y30)),o0,(an 8 9)],[o0],[o0,o0,(a1 9)]] [Qb z,Df b23 o24 c.Aa,BI p,p<c.Aa.xs.length,Bq,Eh w b23 (o24+p*8) (Ah.arr y30),Qb n21,Qb n21,Qb n21,Qb n21,Qb n21,Qb n21,Qb n21,Qb n21,Qb n21] [(1,pt z),(G5 z),(Hl z),(LW c),(36,Ad p),(7,pt n21),(44,.slice none 0 0),(46,.slice y30.Ag.a y30.Ag.xs.length y30.Ag.cap)] ⟨w,n21+1,[(Ak w),(Iz z c),(IR z),(QN z c aC csG cC psG aP cP),(AA z 73 3 Am.cells csG),(IK z aC csG cC),(Nq z psG),(LM z psG),(NP z psG aP cP),(bk n21 (Ah.arr y30) 52)]⟩ rfl ⟨rfl,Dh ha25,rfl,(by omega),rfl,CB hc28,rfl,rfl,rfl,rfl,rfl,rfl,rfl,rfl,rfl,Ae⟩ ?_
  refine Pn z 54 4 Ar.cells ?_
  refine O3 z 10 0 ([]) y30.Ag.xs y30.Ag.a Ar.cells 54 4 32 (.slice none 0 0) y30.Ag.xs.length y30.Ag.cap (Ak w) (some 47) (by(try simp only[List.length_cons,List.length_nil,List.nil_append,List.length_append,Dv]);omega) (show z≤n21+1 by omega) (fun w' hw=>O9 (fun b k v _ hv=>BA hv w' hw) (fun _ h=>h) (he29.Ag).1) (fun ax31 cp32 n33 (hn34:n21+1≤n33) => ?_)
  refine Hu 12 3 [] [[o0],[o0,o0,(a1 9)],[o0],[o0,o0,(a1 9)]] [Qb n21,Qb n21] [(1,pt z),(G5 z),(Hl z),(LW c),(36,Ad p),(7,pt n21),(50,.slice none 0 0),(52,.slice y30.Ai.a y30.Ai.xs.length y30.Ai.cap)] ⟨w,n33,[(Ak w),(Iz z c),(IR z),(QN z c aC csG cC psG aP cP),(AA z 73 3 Am.cells csG),(IK z aC csG cC),(Nq z psG),(LM z psG),(NP z psG aP cP),(bk n21 #[.string y30.Name,i6 y30.Entry,i6 y30.Ef,i6 y30.Dl,i6 y30.Eg,i6 y30.DD,.slice ax31 (([]++y30.Ag.xs).length) cp32,.slice y30.Ai.a y30.Ai.xs.length y30.Ai.cap] 52),(Vb z y30 ax31 cp32)]⟩ rfl ⟨rfl,rfl,Ae⟩ ?_
  refine Pn z 75 2 AC.cells ?_
  refine O3 z 11 0 ([]) y30.Ai.xs y30.Ai.a AC.cells 75 2 16 (.slice none 0 0) y30.Ai.xs.length y30.Ai.cap (Ak w) (some 53) (by(try simp only[List.length_cons,List.length_nil,List.nil_append,List.length_append,Dv]);omega) (show z≤n33 by omega) (fun w' hw=>O9 (fun b k v _ hv=>BA hv w' hw) (fun _ h=>h) (he29.Ai).1) (fun ax35 cp36 n37 (hn38:n33≤n37) => ?_)
  refine Hu 7 4 [] [[o0],[o0,o0,(a1 9)],[o0,(a1 3),(an 8 9),o0]] [Qb n21,Qb (z+2),Qb n21,Qb n21,Qb n21,Qb n21,Qb n21,Qb n21,Qb n21,Qb n21] [(1,pt z),(G5 z),(Hl z),(LW c),(36,Ad p),(57,.slice aP psG.length cP),(59,.slice (some ⟨n37,0,none⟩) 1 1)] ⟨w,n37+1,[(Ak w),(Iz z c),(IR z),(QN z c aC csG cC psG aP cP),(AA z 73 3 Am.cells csG),(IK z aC csG cC),(Nq z psG),(LM z psG),(NP z psG aP cP),(SL y30 ax31 cp32 ax35 cp36 n21),(Vb z y30 ax31 cp32),(SB z y30 ax35 cp36),(TD y30 ax31 cp32 ax35 cp36 n37)]⟩ rfl ⟨rfl,rfl,rfl,rfl,rfl,rfl,rfl,rfl,rfl,rfl,Ae⟩ ?_
  refine Fe z 8 12 psG [(⟨y30.Name,y30.Entry,y30.Ef,y30.Dl,y30.Eg,y30.DD,(⟨ax31,cp32,([]++y30.Ag.xs)⟩:Sl Ar),(⟨ax35,cp36,([]++y30.Ai.xs)⟩:Sl AC)⟩:Ah)] Ah.cells 52 8 104 (.slice aP psG.length cP) n37 1 1 #[.string y30.Name,i6 y30.Entry,i6 y30.Ef,i6 y30.Dl,i6 y30.Eg,i6 y30.DD,.slice ax31 (([]++y30.Ag.xs).length) cp32,.slice ax35 (([]++y30.Ai.xs).length) cp36] 52 (0,0) true (some 60) (by(try simp only[List.length_cons,List.length_nil,List.nil_append,List.length_append,Dv]);omega) (show z≤n37+1 by omega) (fun ax39 cp40 n41 (hn42:n37+1≤n41) => ?_)
  refine Hu 5 0 [] [[o0,(a1 3)],[(ov (i6 ((p+1:Nat):Int))),o0]] [Qb (z+2),Wr ((p:Int)+1) (((p+1:Nat):Int))] [(1,pt z),(G5 z),(Hl z),(LW c),(36,i6 ((p+1:Nat):Int))] ⟨w,n41,[(Ak w),(Iz z c),(IR z),(Su z c aC csG cC ax39 psG y30 ax31 cp32 ax35 cp36 cp40),(AA z 73 3 Am.cells csG),(IK z aC csG cC),(Nq z psG),(LM z psG),(Sv z ax39 psG y30 ax31 cp32 ax35 cp36 cp40),(SL y30 ax31 cp32 ax35 cp36 n21),(Vb z y30 ax31 cp32),(SB z y30 ax35 cp36),(TD y30 ax31 cp32 ax35 cp36 n37)]⟩ rfl ⟨rfl,Be,Ae⟩ ?_
  refine Qk 6 10 [0,1,2,3,4,5,7,8,9,11,12] (a:=ax31) (cap:=cp32) (xs:=([]++y30.Ag.xs)) [(Ak w),(Iz z c),(IR z),(Su z c aC csG cC ax39 psG y30 ax31 cp32 ax35 cp36 cp40),(AA z 73 3 Am.cells csG),(IK z aC csG cC),(LM z psG),(Sv z ax39 psG y30 ax31 cp32 ax35 cp36 cp40),(SL y30 ax31 cp32 ax35 cp36 n21),(SB z y30 ax35 cp36),(TD y30 ax31 cp32 ax35 cp36 n37)] ?_
  refine Qk 6 9 [0,1,2,3,4,5,7,8,10,11] (a:=ax35) (cap:=cp36) (xs:=([]++y30.Ai.xs)) [(Ak w),(Iz z c),(IR z),(Su z c aC csG cC ax39 psG y30 ax31 cp32 ax35 cp36 cp40),(AA z 73 3 Am.cells csG),(IK z aC csG cC),(Sv z ax39 psG y30 ax31 cp32 ax35 cp36 cp40),(SL y30 ax31 cp32 ax35 cp36 n21),(TD y30 ax31 cp32 ax35 cp36 n37),(AA z 54 4 Ar.cells ((psG.map Ah.Ag)++[⟨ax31,cp32,([]++y30.Ag.xs)⟩]))] ?_
  refine BO [0,1,2,3,4,5,9,10,6] [(Ak w),(Iz z c),(IR z),(Su z c aC csG cC ax39 psG y30 ax31 cp32 ax35 cp36 cp40),(AA z 73 3 Am.cells csG),(IK z aC csG cC),(AA z 54 4 Ar.cells ((psG.map Ah.Ag)++[⟨ax31,cp32,([]++y30.Ag.xs)⟩])),(AA z 75 2 AC.cells ((psG.map Ah.Ai)++[⟨ax35,cp36,([]++y30.Ai.xs)⟩])),(Sv z ax39 psG y30 ax31 cp32 ax35 cp36 cp40)] rfl rfl ?_
  refine Dp [1,2,3,35,36] [(1,pt z),(G5 z),(Hl z),(LW c),(36,i6 ((p+1:Nat):Int))] ?_
  refine Bz (fun a w' hs=>⟨c.Aa.xs.length - (p+1),by omega,n41,(p+1),(psG++[(⟨y30.Name,y30.Entry,y30.Ef,y30.Dl,y30.Eg,y30.DD,(⟨ax31,cp32,([]++y30.Ag.xs)⟩:Sl Ar),(⟨ax35,cp36,([]++y30.Ai.xs)⟩:Sl AC)⟩:Ah)]),ax39,cp40,rfl,by omega,by omega,by rw[List.length_append,hpl];rfl,snoc_all2 hp1 hpl (by rw[←hy30];rfl),(by(try dsimp only[Su,SL,TD,Ur,QN,IR,Iz,Sv,Vb,SB,IK,NP,Nq,LM,LW,Nl,G5,Hl]at hs ⊢);rw[List.map_append,List.map_append];exact hs)⟩)
 refine q_c 16 4 [0] [[oF],[o0,(a1 3)],[o0,(a1 3),o0,(a1 1)]] [BF ((p:Int)<(c.Aa.xs.length:Int)),Qb (z+2),Qb (z+2),Qb z] [(G5 z),(Hl z),(65,.slice none 0 0),(67,.slice c.Ac.a c.Ac.xs.length c.Ac.cap)] ⟨w,n21,[(Ak w),(Iz z c),(IR z),(bk (z+2) #[i6 c.Frames,i6 c.Dz,i6 c.Kernel,i6 c.Room,.slice aC csG.length cC,.slice aP psG.length cP,.slice none 0 0] 26),(AA z 73 3 Am.cells csG),(IK z aC csG cC),(Nq z psG),(LM z psG),(NP z psG aP cP)]⟩ rfl ⟨bf,rfl,rfl,rfl,Ae⟩ ?_
 refine Pn z 77 3 Aw.cells ?_
 refine O3 z 9 0 ([]) c.Ac.xs c.Ac.a Aw.cells 77 3 24 (.slice none 0 0) c.Ac.xs.length c.Ac.cap (Ak w) (some 68) (by(try simp only[List.length_cons,List.length_nil,List.nil_append,List.length_append,Dv]);omega) (show z≤n21 by omega) (fun w' hw=>O9 (fun b k v _ hv=>BA hv w' hw) (fun _ h=>h) (hc.Ac).1) (fun ax43 cp44 n45 (hn46:n21≤n45) => ?_)
 refine Hu 7 0 [] [[o0,(a1 3)],[(an 7 3),(an 7 2)]] [Qb (z+2),Qb (z+2),Qb (z+2),Qb (z+2),Qb (z+2),Qb (z+2),Qb (z+2),Qb (z+2),Qb (z+1),Qb (z+1),Qb (z+1),Qb (z+1),Qb (z+1),Qb (z+1),Qb (z+1)] [(G5 z)] ⟨w,n45,[(Ak w),(Iz z c),(bk (z+1) #[i6 c.Frames,i6 c.Dz,i6 c.Kernel,i6 c.Room,.slice aC csG.length cC,.slice aP psG.length cP,.slice ax43 (([]++c.Ac.xs).length) cp44] 26),(bk (z+2) #[i6 c.Frames,i6 c.Dz,i6 c.Kernel,i6 c.Room,.slice aC csG.length cC,.slice aP psG.length cP,.slice ax43 (([]++c.Ac.xs).length) cp44] 26),(AA z 73 3 Am.cells csG),(IK z aC csG cC),(Nq z psG),(LM z psG),(NP z psG aP cP),(AV z 77 3 Aw.cells (.slice ax43 (([]++c.Ac.xs).length) cp44) ([]++c.Ac.xs))]⟩ rfl ⟨rfl,rfl,rfl,rfl,rfl,rfl,rfl,rfl,rfl,rfl,rfl,rfl,rfl,rfl,rfl,Ae⟩ ?_
 refine AZ [.at 2,.at 2,.at 2,.at 2,.at 2,.at 2,.at 2] [Qb (z+1),Qb (z+1),Qb (z+1),Qb (z+1),Qb (z+1),Qb (z+1),Qb (z+1)] (.agg #[i6 c.Frames,i6 c.Dz,i6 c.Kernel,i6 c.Room,.slice aC csG.length cC,.slice aP psG.length cP,.slice ax43 (([]++c.Ac.xs).length) cp44]) ⟨rfl,rfl,rfl,rfl,rfl,rfl,rfl,Ae⟩ ?_
 intro w47 hw47
 have hO:Xl z w47 (⟨c.Frames,c.Dz,c.Kernel,c.Room,⟨aC,cC,csG⟩,⟨aP,cP,psG⟩,⟨ax43,cp44,([]++c.Ac.xs)⟩⟩:Af):=⟨w,by
  have h4:=hw47.pick [5,4,8,6,7,9] rfl rfl
  rw[hw47.size]
  unfold confS Sl.val
  (try dsimp only[Su,SL,TD,Ur,QN,IR,Iz,Sv,SB,IK,NP,Nq,LM,LW,Nl,G5,Hl]at h4)
  exact h4⟩
 have ei:i=c.Az.xs.length:=by omega
 have ep:p=c.Aa.xs.length:=by omega
 exact⟨(⟨c.Frames,c.Dz,c.Kernel,c.Room,⟨aC,cC,csG⟩,⟨aP,cP,psG⟩,⟨ax43,cp44,([]++c.Ac.xs)⟩⟩:Af),rfl,Yk ⟨rfl,rfl,rfl,rfl⟩ (hcl.trans ei) (hpl.trans ep) rfl (fun q hq=>hc1 q (by omega)) (fun q hq=>hp1 q (by omega)),hz ▸ hO,Bg hw47⟩
section
variable (z:Nat)(aC:Option Addr)(csG:List (Sl Am))(cC:Nat)(aW:Option Addr)(wsG:List (Sl Am))(cW:Nat)(ax72:Option Addr)(psG:List Ah)(y42:Ah)(ar:Option Addr)(cr:Nat)(aq:Option Addr)(cq cp73:Nat)(ax62:Option Addr)(rsG:List (Sl Ar))(kp cp63:Nat)(ax66:Option Addr)(qsG:List (Sl AC))(cp67:Nat)(ax83:Option Addr)(spG:List (Sl Am))(n81 k cp84:Nat)(ax87:Option Addr)(cp88:Nat)(aR:Option Addr)(cR:Nat)(aQ:Option Addr)(cQ:Nat)(ax91:Option Addr)(c:Af)(cp92:Nat)(ax28 aw:Option Addr)(cw:Nat)(y11:Sl Am)(cp29:Nat)(ax23:Option Addr)(kw cp24:Nat)(n33 n68:Nat)(aD:Option Addr)(cD:Nat)(aE:Option Addr)(cE:Nat)(aH:Option Addr)(cH:Nat)(aP:Option Addr)(cP n85:Nat)(n52 n89:Nat)(n64 n17 n25:Nat)(ax54:Option Addr)(cp55:Nat)(w:World)
abbrev Wl:=bk (z+3) #[.slice aC csG.length cC,.slice aW wsG.length cW,.slice ax72 ((psG++[(⟨y42.Name,y42.Entry,y42.Ef,y42.Dl,y42.Eg,y42.DD,(⟨ar,cr - 0,y42.Ag.xs⟩:Sl Ar),(⟨aq,cq - 0,y42.Ai.xs⟩:Sl AC)⟩:Ah)]).length) cp73,.slice ax62 ((rsG++[(⟨ar,cr,(y42.Ag.xs++BL JC kp)⟩:Sl Ar)]).length) cp63,.slice ax66 ((qsG++[(⟨aq,cq,(y42.Ai.xs++BL KI kp)⟩:Sl AC)]).length) cp67,.slice none 0 0] 44
abbrev U3:Ch:= .blk (z+3) (.cells #[.slice ax83 (((csG++spG)++[(⟨some ⟨n81,0,none⟩,1,[Gh k]⟩:Sl Am)]).length) cp84,.slice aW wsG.length cW,.slice ax87 (((psG++BL Gj k)++[(⟨⟨#[]⟩,(-70) - (k:Int),0,0,0,0,(⟨none,0,[]⟩:Sl Ar),(⟨none,0,[]⟩:Sl AC)⟩:Ah)]).length) cp88,.slice aR rsG.length cR,.slice aQ qsG.length cQ,.slice ax91 (((c.Ac.xs++BL GY k)++[(⟨(-70) - (k:Int),0,0⟩:Aw)]).length) cp92] 44 (0,0)) true
abbrev WH:=bk (z+3) #[.slice ax28 ((csG++[(⟨aw,cw - 0,y11.xs⟩:Sl Am)]).length) cp29,.slice ax23 ((wsG++[(⟨aw,cw,(y11.xs++BL Gh kw)⟩:Sl Am)]).length) cp24,.slice none 0 0,.slice none 0 0,.slice none 0 0,.slice none 0 0] 44
abbrev Ws:=bk n33 #[.string y42.Name,i6 y42.Entry,i6 y42.Ef,i6 y42.Dl,i6 y42.Eg,i6 y42.DD,.slice ar (y42.Ag.xs.length - 0) (cr - 0),.slice aq (y42.Ai.xs.length - 0) (cq - 0)] 52
abbrev Wn:=bk n68 #[.string y42.Name,i6 y42.Entry,i6 y42.Ef,i6 y42.Dl,i6 y42.Eg,i6 y42.DD,.slice ar (y42.Ag.xs.length - 0) (cr - 0),.slice aq (y42.Ai.xs.length - 0) (cq - 0)] 52
abbrev VT:=bk (z+1) #[i6 c.Frames,i6 c.Dz,i6 c.Kernel,i6 c.Room,.slice aD (c.Az.xs.length - 0) (cD - 0),.slice aE (c.Aa.xs.length - 0) (cE - 0),.slice aH (c.Ac.xs.length - 0) (cH - 0)] 26
abbrev TB:=bk n81 #[i6 c.Frames,i6 c.Dz,i6 c.Kernel,i6 c.Room,.slice aD (c.Az.xs.length - 0) (cD - 0),.slice aE (c.Aa.xs.length - 0) (cE - 0),.slice aH (c.Ac.xs.length - 0) (cH - 0)] 26
abbrev KY:=bk (z+3) #[.slice aD ((csG++spG).length) cD,.slice aW wsG.length cW,.slice aE ((psG++BL Gj k).length) cE,.slice aR rsG.length cR,.slice aQ qsG.length cQ,.slice aH ((c.Ac.xs++BL GY k).length) cH] 44
abbrev Yj:=bk (z+3) #[.slice aC csG.length cC,.slice ax23 ((wsG++[(⟨aw,cw,(y11.xs++BL Gh kw)⟩:Sl Am)]).length) cp24,.slice none 0 0,.slice none 0 0,.slice none 0 0,.slice none 0 0] 44
abbrev Kq:=bk (z+3) #[.slice aC csG.length cC,.slice aW wsG.length cW,.slice aP psG.length cP,.slice aR rsG.length cR,.slice aQ qsG.length cQ,.slice none 0 0] 44
abbrev Qx:=bk n85 #[.string (⟨#[]⟩),i6 ((-70) - (k:Int)),i6 0,i6 0,i6 0,i6 0,.slice none 0 0,.slice none 0 0] 52
abbrev Jw:=bk (z+3) #[.slice aC csG.length cC,.slice aW wsG.length cW,.slice none 0 0,.slice none 0 0,.slice none 0 0,.slice none 0 0] 44
abbrev CQ:=bk (z+1) #[i6 0,i6 0,i6 0,i6 0,.slice none 0 0,.slice none 0 0,.slice none 0 0] 26
abbrev CO:=bk (z+2) #[.slice none 0 0,.slice none 0 0,.slice none 0 0,.slice none 0 0,.slice none 0 0,.slice none 0 0] 44
abbrev WM:=bk n52 #[i6 ((-70) - (kp:Int)),i6 0,i6 0,i6 0] 54
abbrev Sz:=bk n81 #[i6 ((-70) - (k:Int)),i6 0,i6 0] 73
abbrev SY:=bk n89 #[i6 ((-70) - (k:Int)),i6 0,i6 0] 77
abbrev O7:=bk n52 #[.slice ar ((y42.Ag.xs++BL JC kp).length) cr] 49
abbrev Py:=bk n64 #[.slice aq ((y42.Ai.xs++BL KI kp).length) cq] 50
abbrev PN:=bk n17 #[.slice aw ((y11.xs++BL Gh kw).length) cw] 57
abbrev UR:=bk n25 #[.slice aw (y11.xs.length - 0) (cw - 0)] 57
abbrev Pz:=bk (n81+1) #[.slice (some ⟨n81,0,none⟩) 1 1] 57
abbrev Jz:=bk n33 (Ah.arr y42) 52
abbrev CJ:=bk z (Af.arr c) 26
abbrev UX:=AV z 52 8 Ah.cells (.slice ax72 ((psG++[(⟨y42.Name,y42.Entry,y42.Ef,y42.Dl,y42.Eg,y42.DD,(⟨ar,cr - 0,y42.Ag.xs⟩:Sl Ar),(⟨aq,cq - 0,y42.Ai.xs⟩:Sl AC)⟩:Ah)]).length) cp73) (psG++[(⟨y42.Name,y42.Entry,y42.Ef,y42.Dl,y42.Eg,y42.DD,(⟨ar,cr - 0,y42.Ag.xs⟩:Sl Ar),(⟨aq,cq - 0,y42.Ai.xs⟩:Sl AC)⟩:Ah)])
abbrev Q8:=AV z 52 8 Ah.cells (.slice ax87 (((psG++BL Gj k)++[(⟨⟨#[]⟩,(-70) - (k:Int),0,0,0,0,(⟨none,0,[]⟩:Sl Ar),(⟨none,0,[]⟩:Sl AC)⟩:Ah)]).length) cp88) ((psG++BL Gj k)++[(⟨⟨#[]⟩,(-70) - (k:Int),0,0,0,0,(⟨none,0,[]⟩:Sl Ar),(⟨none,0,[]⟩:Sl AC)⟩:Ah)])
abbrev Xa:=AV z 54 4 Ar.cells (.slice ax54 (((y42.Ag.xs++BL JC kp)++[(⟨(-70) - (kp:Int),0,0,0⟩:Ar)]).length) cp55) ((y42.Ag.xs++BL JC kp)++[(⟨(-70) - (kp:Int),0,0,0⟩:Ar)])
abbrev Pq:=AV z 57 1 (fun x:Sl Am=>[Sl.val x]) (.slice ax83 (((csG++spG)++[(⟨some ⟨n81,0,none⟩,1,[Gh k]⟩:Sl Am)]).length) cp84) ((csG++spG)++[(⟨some ⟨n81,0,none⟩,1,[Gh k]⟩:Sl Am)])
abbrev OB:=AV z 49 1 (fun x:Sl Ar=>[Sl.val x]) (.slice ax62 ((rsG++[(⟨ar,cr,(y42.Ag.xs++BL JC kp)⟩:Sl Ar)]).length) cp63) (rsG++[(⟨ar,cr,(y42.Ag.xs++BL JC kp)⟩:Sl Ar)])
abbrev TG:=AV z 77 3 Aw.cells (.slice ax91 (((c.Ac.xs++BL GY k)++[(⟨(-70) - (k:Int),0,0⟩:Aw)]).length) cp92) ((c.Ac.xs++BL GY k)++[(⟨(-70) - (k:Int),0,0⟩:Aw)])
abbrev PI:=AV z 50 1 (fun x:Sl AC=>[Sl.val x]) (.slice ax66 ((qsG++[(⟨aq,cq,(y42.Ai.xs++BL KI kp)⟩:Sl AC)]).length) cp67) (qsG++[(⟨aq,cq,(y42.Ai.xs++BL KI kp)⟩:Sl AC)])
abbrev QB:=AV z 57 1 (fun x:Sl Am=>[Sl.val x]) (.slice ax23 ((wsG++[(⟨aw,cw,(y11.xs++BL Gh kw)⟩:Sl Am)]).length) cp24) (wsG++[(⟨aw,cw,(y11.xs++BL Gh kw)⟩:Sl Am)])
abbrev UU:=AV z 57 1 (fun x:Sl Am=>[Sl.val x]) (.slice ax28 ((csG++[(⟨aw,cw - 0,y11.xs⟩:Sl Am)]).length) cp29) (csG++[(⟨aw,cw - 0,y11.xs⟩:Sl Am)])
abbrev Js:=AV z 54 4 Ar.cells (.slice ar ((y42.Ag.xs++BL JC kp).length) cr) (y42.Ag.xs++BL JC kp)
abbrev Jh:=AV z 77 3 Aw.cells (.slice aH ((c.Ac.xs++BL GY k).length) cH) (c.Ac.xs++BL GY k)
abbrev IC:=AV z 75 2 AC.cells (.slice aq ((y42.Ai.xs++BL KI kp).length) cq) (y42.Ai.xs++BL KI kp)
abbrev JL:=AV z 57 1 (fun x:Sl Am=>[Sl.val x]) (.slice aD ((csG++spG).length) cD) (csG++spG)
abbrev IE:=AV z 73 3 Am.cells (.slice aw ((y11.xs++BL Gh kw).length) cw) (y11.xs++BL Gh kw)
abbrev Ju:=AV z 52 8 Ah.cells (.slice aE ((psG++BL Gj k).length) cE) (psG++BL Gj k)
abbrev DZ:=AV z 57 1 (fun x:Sl Am=>[Sl.val x]) (.slice aC csG.length cC) csG
abbrev CY:=AV z 57 1 (fun x:Sl Am=>[Sl.val x]) (.slice aW wsG.length cW) wsG
abbrev E5:=AV z 49 1 (fun x:Sl Ar=>[Sl.val x]) (.slice aR rsG.length cR) rsG
abbrev Ej:=AV z 50 1 (fun x:Sl AC=>[Sl.val x]) (.slice aQ qsG.length cQ) qsG
abbrev GV:=AV z 52 8 Ah.cells (.slice aP psG.length cP) psG
abbrev Ve:Dq:=(10,.slice ax54 (((y42.Ag.xs++BL JC kp)++[(⟨(-70) - (kp:Int),0,0,0⟩:Ar)]).length) cp55)
abbrev L9:Dq:=(10,.slice ar ((y42.Ag.xs++BL JC kp).length) cr)
abbrev JV:Dq:=(11,.slice aq ((y42.Ai.xs++BL KI kp).length) cq)
abbrev F5:=(60,Ad c.Aa.xs.length)
abbrev EU:=(17,Ad c.Az.xs.length)
abbrev BK:=(2,pt (z+1))
abbrev BM:=(3,pt (z+2))
abbrev Cf:=(4,pt (z+3))
abbrev Ib:=(9,pt n33)
abbrev UT:=[(Ak w),(CJ z c),(VT z c aD cD aE cE aH cH),(bk (z+2) #[.slice aD ((csG++spG).length) cD,.slice aW wsG.length cW,.slice aE ((psG++BL Gj k).length) cE,.slice aR rsG.length cR,.slice aQ qsG.length cQ,.slice aH ((c.Ac.xs++BL GY k).length) cH] 44),(KY z csG aW wsG cW psG rsG qsG spG k aR cR aQ cQ c aD cD aE cE aH cH),(AA z 73 3 Am.cells wsG),(JL z csG spG aD cD),(CY z aW wsG cW),(AA z 54 4 Ar.cells rsG),(AA z 75 2 AC.cells qsG),(Ju z psG k aE cE),(E5 z rsG aR cR),(Ej z qsG aQ cQ),(Jh z k c aH cH),(AA z 73 3 Am.cells spG),(TB n81 c aD cD aE cE aH cH)]
end
theorem Y5(w:World)(c:Af)(hc:Af.ok Any w c)(hLim:UE c):Calls Try.prog 8 #[.agg (Af.arr c)] w fun e w'=>∃ M:RM,e = .returned (.tuple #[.agg (Af.arr (RG c M)),.agg (Ih.arr (Uc c M))])∧Kr c M∧(∃ w0,Sat ⟨w0,w'.heap.size,Qo w.heap.size c M⟩ w')∧BN (fun _=>False) w w':=by
 obtain⟨z,hz⟩:∃ z,z=w.heap.size:=⟨_,rfl⟩
 refine BV (args:=[.agg (Af.arr c)]) 183 ⟨w,z,[(Ak w)]⟩ Try.func8 rfl (by kernel_rfl) (by kernel_rfl) (Fv hz) ?_
 have hpl_:=hc.Aa.1.len;have hpc:=hc.Az.1.len;have hpch:=hc.Ac.1.len;have hll1:=hLim.cl;have hll2:=hLim.pl;have hll3:=hLim.hl
 refine Eb [0] [(0,.agg (Af.arr c))] ?_
 refine q_c 14 0 [] [[o0,o0,o0],[o0],[o0,(a1 1),o0,o0]] [Qb z] [(1,pt z),(BK z),(BM z),(Cf z),(EU c),(18,i6 0)] ⟨w,z+4,[(Ak w),(CJ z c),(CQ z),(CO z),(bk (z+3) #[.slice none 0 0,.slice none 0 0,.slice none 0 0,.slice none 0 0,.slice none 0 0,.slice none 0 0] 44)]⟩ rfl ⟨rfl,Ae⟩ ?_
 refine OZ z 73 3 Am.cells ?_
 refine Le z 57 1 (fun x:Sl Am=>[Sl.val x]) ?_
 refine Le z 57 1 (fun x:Sl Am=>[Sl.val x]) ?_
 refine Ce (fun m a w'=>∃ (n2:Nat) (i:Nat) (csG:List (Sl Am)) (wsG:List (Sl Am)) (aC:Option Addr) (cC:Nat) (aW:Option Addr) (cW:Nat),m=c.Az.xs.length - i∧z+4≤n2∧(i≤c.Az.xs.length)∧(Vg c i csG wsG)∧St 183 [(1,pt z),(BK z),(BM z),(Cf z),(EU c),(18,Ad i)] [] ⟨w,n2,[(Ak w),(CJ z c),(CQ z),(CO z),(Jw z aC csG cC aW wsG cW),(AA z 73 3 Am.cells wsG),(DZ z aC csG cC),(CY z aW wsG cW)]⟩ a w') (c.Az.xs.length - 0) ?_ ?_
 ·intro a w' hs;exact⟨(z+4),0,([]),([]),none,0,none,0,rfl,Nat.le_refl _,Nat.zero_le _,cor_nil,hs⟩
 rintro m a w' ⟨n2,i,csG,wsG,aC,cC,aW,cW,rfl,hn1,hki,hCo,hs⟩
 refine(?_:G Try.prog 183 [(1,pt z),(BK z),(BM z),(Cf z),(EU c),(18,Ad i)] [] ⟨w,n2,[(Ak w),(CJ z c),(CQ z),(CO z),(Jw z aC csG cC aW wsG cW),(AA z 73 3 Am.cells wsG),(DZ z aC csG cC),(CY z aW wsG cW)]⟩ _ _ _) a w' hs
 clear hs a w'
 have hl1:=hCo.l1;have hl2:=hCo.l2
 refine CP ?_
 by_cases h3:(i:Int)<(c.Az.xs.length:Int)
 ·refine A8 18 0 [1] [[oT],[o0,o0],[o0]] [BT ((i:Int)<(c.Az.xs.length:Int))] [(1,pt z),(BK z),(BM z),(Cf z),(EU c),(18,Ad i),(5,Ad i),(6,.slice none 0 0)] rfl ⟨bt,Ae⟩ ?_
  obtain⟨b4,o5,ha6,hF8,hc7⟩:=(hc.Az).1.all (show 0<c.Az.xs.length by omega)
  replace ha6:c.Az.a=some ⟨b4,o5,none⟩:=ha6
  have hc9:=hc7 i (show i<c.Az.xs.length by omega)
  have he10:=(hc.Az).2 i (show i<c.Az.xs.length by omega)
  obtain⟨y11,hy11⟩:∃ y_,y_=gd c.Az.xs i:=⟨_,rfl⟩
  rw[←hy11]at he10 hc9
  have hlw:=hLim.ws i (by omega);rw[←hy11]at hlw;have hyl:=he10.1.len
  refine A8 1 6 [] [[o0,o0,(Du 1 b4 o5 c.Az),o0,(oi i),(oa [.via 0 (.slice y11.a y11.xs.length y11.cap)])]] [Qb z,Df b4 o5 c.Az,BI i,i<c.Az.xs.length,Bq,Old w b4 (o5+i) (.slice y11.a y11.xs.length y11.cap)] [(1,pt z),(BK z),(BM z),(Cf z),(EU c),(18,Ad i),(5,Ad i),(21,.slice none 0 0),(26,.slice y11.a y11.xs.length y11.cap)] rfl ⟨rfl,Dh ha6,rfl,(by omega),rfl,BA (hc9 0 _ rfl),Ae⟩ ?_
  refine Pn z 73 3 Am.cells ?_
  refine O3 z 8 0 ([]) y11.xs y11.a Am.cells 73 3 24 (.slice none 0 0) y11.xs.length y11.cap (Ak w) (some 27) (by(try simp only[List.length_cons,List.length_nil,List.nil_append,List.length_append,Dv]);omega) (show z≤n2 by omega) (fun w' hw=>O9 (fun b k v _ hv=>BA hv w' hw) (fun _ h=>h) (he10).1) (fun ax12 cp13 n14 (hn15:n2≤n14) => ?_)
  refine Di 8 0 [] [[o0],[o0]] [] [(1,pt z),(BK z),(BM z),(Cf z),(5,Ad i),(6,.slice ax12 (([]++y11.xs).length) cp13),(EU c),(18,Ad i),(28,i6 0)] rfl Ae ?_
  refine Ce (fun m a w'=>∃ (n17:Nat) (kw:Nat) (aw:Option Addr) (cw:Nat),m=12 - kw∧n14≤n17∧(kw≤12)∧St 183 [(1,pt z),(BK z),(BM z),(Cf z),(5,Ad i),(6,.slice aw ((y11.xs++BL Gh kw).length) cw),(EU c),(18,Ad i),(28,Ad kw)] [] ⟨w,n17,[(Ak w),(CJ z c),(CQ z),(CO z),(Jw z aC csG cC aW wsG cW),(AA z 73 3 Am.cells wsG),(DZ z aC csG cC),(CY z aW wsG cW),(IE z aw cw y11 kw)]⟩ a w') (12 - 0) ?_ ?_
  ·intro a w' hs;exact⟨n14,0,ax12,cp13,rfl,Nat.le_refl _,Nat.zero_le _,(by(try dsimp only[Jw,CQ,CO,CJ,IE,DZ,CY,EU,BK,BM,Cf]at hs ⊢);rw[Rn,List.append_nil];exact hs)⟩
  rintro m a w' ⟨n17,kw,aw,cw,rfl,hn16,hkkw,hs⟩
  refine(?_:G Try.prog 183 [(1,pt z),(BK z),(BM z),(Cf z),(5,Ad i),(6,.slice aw ((y11.xs++BL Gh kw).length) cw),(EU c),(18,Ad i),(28,Ad kw)] [] ⟨w,n17,[(Ak w),(CJ z c),(CQ z),(CO z),(Jw z aC csG cC aW wsG cW),(AA z 73 3 Am.cells wsG),(DZ z aC csG cC),(CY z aW wsG cW),(IE z aw cw y11 kw)]⟩ _ _ _) a w' hs
  clear hs a w'
  have hfl:(y11.xs++BL Gh kw).length=y11.xs.length+kw:=by rw[List.length_append,Dv]
  refine CP ?_
  by_cases h18:(kw:Int)<12
  ·refine q_c 14 5 [1] [[oT],[o0,o0],[o0,o0,(ov (i6 ((-70) - (kw:Int)))),o0,o0]] [BT ((kw:Int)<12),Wr ((-70:Int) - (kw:Int)) ((-70) - (kw:Int))] [(1,pt z),(BK z),(BM z),(Cf z),(5,Ad i),(EU c),(18,Ad i),(28,Ad kw),(31,.slice aw ((y11.xs++BL Gh kw).length) cw),(35,.slice (some ⟨n17,0,none⟩) 1 1)] ⟨w,n17+1,[(Ak w),(CJ z c),(CQ z),(CO z),(Jw z aC csG cC aW wsG cW),(AA z 73 3 Am.cells wsG),(DZ z aC csG cC),(CY z aW wsG cW),(IE z aw cw y11 kw),(bk n17 #[i6 ((-70) - (kw:Int)),i6 0,i6 0] 73)]⟩ rfl ⟨bt,Be,Ae⟩ ?_
   refine Fe z 8 9 (y11.xs++BL Gh kw) [(⟨(-70) - (kw:Int),0,0⟩:Am)] Am.cells 73 3 24 (.slice aw ((y11.xs++BL Gh kw).length) cw) n17 1 1 #[i6 ((-70) - (kw:Int)),i6 0,i6 0] 73 (0,0) true (some 36) (by(try simp only[List.length_cons,List.length_nil,List.nil_append,List.length_append,Dv]);omega) (show z≤n17+1 by omega) (fun ax19 cp20 n21 (hn22:n17+1≤n21) => ?_)
   refine Di 5 0 [] [[o0],[(ov (i6 ((kw+1:Nat):Int))),o0]] [Wr ((kw:Int)+1) (((kw+1:Nat):Int))] [(1,pt z),(BK z),(BM z),(Cf z),(5,Ad i),(EU c),(18,Ad i),(28,i6 ((kw+1:Nat):Int)),(6,.slice ax19 (((y11.xs++BL Gh kw)++[(⟨(-70) - (kw:Int),0,0⟩:Am)]).length) cp20)] rfl ⟨Be,Ae⟩ ?_
   refine BO [0,1,2,3,4,5,6,7,8] [(Ak w),(CJ z c),(CQ z),(CO z),(Jw z aC csG cC aW wsG cW),(AA z 73 3 Am.cells wsG),(DZ z aC csG cC),(CY z aW wsG cW),(AV z 73 3 Am.cells (.slice ax19 (((y11.xs++BL Gh kw)++[(⟨(-70) - (kw:Int),0,0⟩:Am)]).length) cp20) ((y11.xs++BL Gh kw)++[(⟨(-70) - (kw:Int),0,0⟩:Am)]))] rfl rfl ?_
   refine Dp [1,2,3,4,5,6,17,18,28] [(1,pt z),(BK z),(BM z),(Cf z),(5,Ad i),(6,.slice ax19 (((y11.xs++BL Gh kw)++[(⟨(-70) - (kw:Int),0,0⟩:Am)]).length) cp20),(EU c),(18,Ad i),(28,i6 ((kw+1:Nat):Int))] ?_
   refine Bz (fun a w' hs=>⟨12 - (kw+1),by omega,n21,(kw+1),ax19,cp20,rfl,by omega,by omega,(by(try dsimp only[Jw,CQ,CO,CJ,IE,DZ,CY,EU,BK,BM,Cf]at hs ⊢);rw[QV,←List.append_assoc];exact hs)⟩)
  refine q_c 12 4 [0] [[oF],[o0,(a1 4),o0,o0]] [BF ((kw:Int)<12),Qb (z+3)] [(1,pt z),(BK z),(BM z),(Cf z),(5,Ad i),(6,.slice aw ((y11.xs++BL Gh kw).length) cw),(EU c),(18,Ad i),(39,.slice aW wsG.length cW),(41,.slice (some ⟨n17,0,none⟩) 1 1)] ⟨w,n17+1,[(Ak w),(CJ z c),(CQ z),(CO z),(Jw z aC csG cC aW wsG cW),(AA z 73 3 Am.cells wsG),(DZ z aC csG cC),(CY z aW wsG cW),(IE z aw cw y11 kw),(PN aw cw y11 kw n17)]⟩ rfl ⟨bf,rfl,Ae⟩ ?_
  refine Fe z 7 9 wsG [(⟨aw,cw,(y11.xs++BL Gh kw)⟩:Sl Am)] (fun x:Sl Am=>[Sl.val x]) 57 1 24 (.slice aW wsG.length cW) n17 1 1 #[.slice aw ((y11.xs++BL Gh kw).length) cw] 57 (0,0) true (some 42) (by(try simp only[List.length_cons,List.length_nil,List.nil_append,List.length_append,Dv]);omega) (show z≤n17+1 by omega) (fun ax23 cp24 n25 (hn26:n17+1≤n25) => ?_)
  refine Hu 2 0 [] [[o0,(a1 4)]] [Qb (z+3)] [(1,pt z),(BK z),(BM z),(Cf z),(5,Ad i),(6,.slice aw ((y11.xs++BL Gh kw).length) cw),(EU c),(18,Ad i)] ⟨w,n25,[(Ak w),(CJ z c),(CQ z),(CO z),(Yj z aC csG cC wsG aw cw y11 ax23 kw cp24),(AA z 73 3 Am.cells wsG),(DZ z aC csG cC),(QB z wsG aw cw y11 ax23 kw cp24),(IE z aw cw y11 kw),(PN aw cw y11 kw n17)]⟩ rfl ⟨rfl,Ae⟩ ?_
  refine PM (base:=z) (e:=73) (sz:=3) (cells:=Am.cells) (a:=aw) (n:=((y11.xs++BL Gh kw).length)) (cap:=cw) (xs:=(y11.xs++BL Gh kw)) 8 rfl (fun hcap27 => ?_)
  simp only[List.length_append,Dv]at hcap27
  refine Fp 13 [0,1,2,3,4,5,8,9] [(Ak w),(CJ z c),(CQ z),(CO z),(Yj z aC csG cC wsG aw cw y11 ax23 kw cp24),(AA z 73 3 Am.cells wsG),(IE z aw cw y11 kw),(PN aw cw y11 kw n17)] rfl rfl ?_
  refine CU [(0,o0),(1,(a1 4)),(2,o0),(3,o0),(4,(Du 1 b4 o5 c.Az)),(5,o0),(6,(oi i)),(7,(oa [.via 0 (.slice y11.a y11.xs.length y11.cap)])),(8,o0),(9,⟨.slc 0 y11.xs.length false,none⟩)] [1,2,3,4,17,18,45,53] [Qb (z+3),Qb z,Df b4 o5 c.Az,BI i,i<c.Az.xs.length,Bq,Old w b4 (o5+i) (.slice y11.a y11.xs.length y11.cap),(0:Int)=((0:Nat):Int),(y11.xs.length:Int)=(y11.xs.length:Int),0≤y11.xs.length,y11.xs.length≤cw,cw=0∨(0:Nat)=0] (Ed 10 4) [(1,pt z),(BK z),(BM z),(Cf z),(EU c),(18,Ad i),(45,.slice aC csG.length cC),(53,.slice aw (y11.xs.length - 0) (cw - 0))] ⟨rfl,rfl,Dh ha6,rfl,(by omega),rfl,BA (hc9 0 _ rfl),rfl,rfl,(by omega),(by omega),.inr rfl,Ae⟩ ?_
  refine CX 10 ?_
  refine EJ o0 [1,2,3,4,17,18,45,54] [] [(1,pt z),(BK z),(BM z),(Cf z),(EU c),(18,Ad i),(45,.slice aC csG.length cC),(54,.slice (some ⟨n25,0,none⟩) 1 1)] ⟨w,n25+1,[(Ak w),(CJ z c),(CQ z),(CO z),(Yj z aC csG cC wsG aw cw y11 ax23 kw cp24),(AA z 73 3 Am.cells wsG),(DZ z aC csG cC),(QB z wsG aw cw y11 ax23 kw cp24),(IE z aw cw y11 kw),(PN aw cw y11 kw n17),(UR aw cw y11 n25)]⟩ [0,1,2,3,4,5,8,9] Ae (.inr rfl) ?_
  refine CX 11 ?_
  refine QD z 6 10 csG [(⟨aw,cw - 0,y11.xs⟩:Sl Am)] (fun x:Sl Am=>[Sl.val x]) 57 1 24 (.slice aC csG.length cC) n25 1 1 #[.slice aw (y11.xs.length - 0) (cw - 0)] 57 (0,0) true (some 55) [0,1,2,3,4,5,8,9] (by(try simp only[List.length_cons,List.length_nil,List.nil_append,List.length_append,Dv]);omega) (show z≤n25+1 by omega) (.inr ⟨rfl,rfl⟩) (fun ax28 cp29 n30 (hn31:n25+1≤n30) => ?_)
  refine DV [1,2,3,4,17,18,55] [(1,pt z),(BK z),(BM z),(Cf z),(EU c),(18,Ad i),(55,.slice ax28 ((csG++[(⟨aw,cw - 0,y11.xs⟩:Sl Am)]).length) cp29)] ?_
  refine CU [(12,o0)] [1,2,3,4,17,18,55,56] [] (Ed 13 1) [(1,pt z),(BK z),(BM z),(Cf z),(EU c),(18,Ad i),(55,.slice ax28 ((csG++[(⟨aw,cw - 0,y11.xs⟩:Sl Am)]).length) cp29),(56,pt (z+3))] Ae ?_
  refine CX 13 ?_
  refine EJ (a1 4) [1,2,3,4,17,18] [Qb (z+3)] [(1,pt z),(BK z),(BM z),(Cf z),(EU c),(18,Ad i)] ⟨w,n30,[(Ak w),(CJ z c),(CQ z),(CO z),(WH z csG wsG ax28 aw cw y11 cp29 ax23 kw cp24),(AA z 73 3 Am.cells wsG),(UU z csG ax28 aw cw y11 cp29),(QB z wsG aw cw y11 ax23 kw cp24),(IE z aw cw y11 kw),(PN aw cw y11 kw n17),(UR aw cw y11 n25)]⟩ [] ⟨rfl,Ae⟩ (.inl rfl) ?_
  refine IA 14 [0,1,2,3,4,5,6,7,8,9,10] [(Ak w),(CJ z c),(CQ z),(CO z),(WH z csG wsG ax28 aw cw y11 cp29 ax23 kw cp24),(AA z 73 3 Am.cells wsG),(UU z csG ax28 aw cw y11 cp29),(QB z wsG aw cw y11 ax23 kw cp24),(IE z aw cw y11 kw),(PN aw cw y11 kw n17),(UR aw cw y11 n25)] rfl rfl ?_
  refine D9 ?_
  refine Ja 4 0 [] [[(ov (i6 ((i+1:Nat):Int))),o0]] [Wr ((i:Int)+1) (((i+1:Nat):Int))] [(1,pt z),(BK z),(BM z),(Cf z),(EU c),(18,i6 ((i+1:Nat):Int))] rfl ⟨Be,Ae⟩ ?_
  refine Qk 5 8 [0,1,2,3,4,6,7,9,10] (a:=aw) (cap:=cw) (xs:=(y11.xs++BL Gh kw)) [(Ak w),(CJ z c),(CQ z),(CO z),(WH z csG wsG ax28 aw cw y11 cp29 ax23 kw cp24),(UU z csG ax28 aw cw y11 cp29),(QB z wsG aw cw y11 ax23 kw cp24),(PN aw cw y11 kw n17),(UR aw cw y11 n25)] ?_
  refine BO [0,1,2,3,4,9,5,6] [(Ak w),(CJ z c),(CQ z),(CO z),(WH z csG wsG ax28 aw cw y11 cp29 ax23 kw cp24),(AA z 73 3 Am.cells (wsG++[⟨aw,cw,(y11.xs++BL Gh kw)⟩])),(UU z csG ax28 aw cw y11 cp29),(QB z wsG aw cw y11 ax23 kw cp24)] rfl rfl ?_
  refine Dp [1,2,3,4,17,18] [(1,pt z),(BK z),(BM z),(Cf z),(EU c),(18,i6 ((i+1:Nat):Int))] ?_
  refine Bz (fun a w' hs=>⟨c.Az.xs.length - (i+1),by omega,n30,(i+1),(csG++[(⟨aw,cw - 0,y11.xs⟩:Sl Am)]),(wsG++[(⟨aw,cw,(y11.xs++BL Gh kw)⟩:Sl Am)]),ax28,cp29,ax23,cp24,rfl,by omega,by omega,cor_in hCo hy11 (by rw[show kw=12 by omega];rfl),hs⟩)
 refine A8 16 0 [0] [[oF],[o0,(a1 1),o0,o0]] [BF ((i:Int)<(c.Az.xs.length:Int)),Qb z] [(1,pt z),(BK z),(BM z),(Cf z),(F5 c),(61,i6 0)] rfl ⟨bf,rfl,Ae⟩ ?_
 refine OZ z 54 4 Ar.cells ?_
 refine OZ z 75 2 AC.cells ?_
 refine Le z 52 8 Ah.cells ?_
 refine Le z 49 1 (fun x:Sl Ar=>[Sl.val x]) ?_
 refine Le z 50 1 (fun x:Sl AC=>[Sl.val x]) ?_
 refine Ce (fun m a w'=>∃ (n33:Nat) (p:Nat) (psG:List Ah) (rsG:List (Sl Ar)) (qsG:List (Sl AC)) (aP:Option Addr) (cP:Nat) (aR:Option Addr) (cR:Nat) (aQ:Option Addr) (cQ:Nat),m=c.Aa.xs.length - p∧n2≤n33∧(p≤c.Aa.xs.length)∧(UF c p psG rsG qsG)∧St 183 [(1,pt z),(BK z),(BM z),(Cf z),(F5 c),(61,Ad p)] [] ⟨w,n33,[(Ak w),(CJ z c),(CQ z),(CO z),(Kq z aC csG cC aW wsG cW psG rsG qsG aR cR aQ cQ aP cP),(AA z 73 3 Am.cells wsG),(DZ z aC csG cC),(CY z aW wsG cW),(AA z 54 4 Ar.cells rsG),(AA z 75 2 AC.cells qsG),(GV z psG aP cP),(E5 z rsG aR cR),(Ej z qsG aQ cQ)]⟩ a w') (c.Aa.xs.length - 0) ?_ ?_
 ·intro a w' hs;exact⟨n2,0,([]),([]),([]),none,0,none,0,none,0,rfl,Nat.le_refl _,Nat.zero_le _,prt_nil,hs⟩
 rintro m a w' ⟨n33,p,psG,rsG,qsG,aP,cP,aR,cR,aQ,cQ,rfl,hn32,hkp,hPr,hs⟩
 refine(?_:G Try.prog 183 [(1,pt z),(BK z),(BM z),(Cf z),(F5 c),(61,Ad p)] [] ⟨w,n33,[(Ak w),(CJ z c),(CQ z),(CO z),(Kq z aC csG cC aW wsG cW psG rsG qsG aR cR aQ cQ aP cP),(AA z 73 3 Am.cells wsG),(DZ z aC csG cC),(CY z aW wsG cW),(AA z 54 4 Ar.cells rsG),(AA z 75 2 AC.cells qsG),(GV z psG aP cP),(E5 z rsG aR cR),(Ej z qsG aQ cQ)]⟩ _ _ _) a w' hs
 clear hs a w'
 have hl4:=hPr.l1;have hl5:=hPr.l2;have hl6:=hPr.l3
 refine CP ?_
 by_cases h34:(p:Int)<(c.Aa.xs.length:Int)
 ·refine A8 14 0 [1] [[oT],[o0,o0]] [BT ((p:Int)<(c.Aa.xs.length:Int))] [(1,pt z),(BK z),(BM z),(Cf z),(F5 c),(61,Ad p),(8,Ad p)] rfl ⟨bt,Ae⟩ ?_
  obtain⟨b35,o36,ha37,hF39,hc38⟩:=(hc.Aa).1.all (show 0<c.Aa.xs.length by omega)
  replace ha37:c.Aa.a=some ⟨b35,o36,none⟩:=ha37
  have hc40:=hc38 p (show p<c.Aa.xs.length by omega)
  have he41:=(hc.Aa).2 p (show p<c.Aa.xs.length by omega)
  obtain⟨y42,hy42⟩:∃ y_,y_=gd c.Aa.xs p:=⟨_,rfl⟩
  rw[←hy42]at he41 hc40
  have hlr:=hLim.rs p (by omega);have hlq:=hLim.qs p (by omega);rw[←hy42]at hlr hlq
  refine q_c 9 3 [] [[o0,(Du 1 b35 o36 c.Aa),o0,(oi p),(ol 0 (Ah.arr y42)),o0,(an 8 13)],[o0],[o0,o0,(a1 13)]] [Qb z,Df b35 o36 c.Aa,BI p,p<c.Aa.xs.length,Bq,Eh w b35 (o36+p*8) (Ah.arr y42),Qb n33,Qb n33,Qb n33,Qb n33,Qb n33,Qb n33,Qb n33,Qb n33,Qb n33] [(1,pt z),(BK z),(BM z),(Cf z),(F5 c),(61,Ad p),(Ib n33),(69,.slice none 0 0),(71,.slice y42.Ag.a y42.Ag.xs.length y42.Ag.cap)] ⟨w,n33+1,[(Ak w),(CJ z c),(CQ z),(CO z),(Kq z aC csG cC aW wsG cW psG rsG qsG aR cR aQ cQ aP cP),(AA z 73 3 Am.cells wsG),(DZ z aC csG cC),(CY z aW wsG cW),(AA z 54 4 Ar.cells rsG),(AA z 75 2 AC.cells qsG),(GV z psG aP cP),(E5 z rsG aR cR),(Ej z qsG aQ cQ),(Jz y42 n33)]⟩ rfl ⟨rfl,Dh ha37,rfl,(by omega),rfl,CB hc40,rfl,rfl,rfl,rfl,rfl,rfl,rfl,rfl,rfl,Ae⟩ ?_
  refine Pn z 54 4 Ar.cells ?_
  refine O3 z 14 0 ([]) y42.Ag.xs y42.Ag.a Ar.cells 54 4 32 (.slice none 0 0) y42.Ag.xs.length y42.Ag.cap (Ak w) (some 72) (by(try simp only[List.length_cons,List.length_nil,List.nil_append,List.length_append,Dv]);omega) (show z≤n33+1 by omega) (fun w' hw=>O9 (fun b k v _ hv=>BA hv w' hw) (fun _ h=>h) (he41.Ag).1) (fun ax43 cp44 n45 (hn46:n33+1≤n45) => ?_)
  refine Di 8 3 [] [[o0],[o0],[o0,o0,(a1 13)]] [Qb n33] [(1,pt z),(BK z),(BM z),(Cf z),(F5 c),(61,Ad p),(Ib n33),(10,.slice ax43 (([]++y42.Ag.xs).length) cp44),(73,.slice none 0 0),(75,.slice y42.Ai.a y42.Ai.xs.length y42.Ai.cap)] rfl ⟨rfl,Ae⟩ ?_
  refine Pn z 75 2 AC.cells ?_
  refine O3 z 15 0 ([]) y42.Ai.xs y42.Ai.a AC.cells 75 2 16 (.slice none 0 0) y42.Ai.xs.length y42.Ai.cap (Ak w) (some 76) (by(try simp only[List.length_cons,List.length_nil,List.nil_append,List.length_append,Dv]);omega) (show z≤n45 by omega) (fun w' hw=>O9 (fun b k v _ hv=>BA hv w' hw) (fun _ h=>h) (he41.Ai).1) (fun ax47 cp48 n49 (hn50:n45≤n49) => ?_)
  refine Di 8 0 [] [[o0],[o0]] [] [(1,pt z),(BK z),(BM z),(Cf z),(Ib n33),(10,.slice ax43 (([]++y42.Ag.xs).length) cp44),(11,.slice ax47 (([]++y42.Ai.xs).length) cp48),(F5 c),(61,Ad p),(77,i6 0)] rfl Ae ?_
  refine Ce (fun m a w'=>∃ (n52:Nat) (kp:Nat) (ar:Option Addr) (cr:Nat) (aq:Option Addr) (cq:Nat),m=12 - kp∧n49≤n52∧(kp≤12)∧St 183 [(1,pt z),(BK z),(BM z),(Cf z),(Ib n33),(L9 y42 ar cr kp),(JV y42 aq cq kp),(F5 c),(61,Ad p),(77,Ad kp)] [] ⟨w,n52,[(Ak w),(CJ z c),(CQ z),(CO z),(Kq z aC csG cC aW wsG cW psG rsG qsG aR cR aQ cQ aP cP),(AA z 73 3 Am.cells wsG),(DZ z aC csG cC),(CY z aW wsG cW),(AA z 54 4 Ar.cells rsG),(AA z 75 2 AC.cells qsG),(GV z psG aP cP),(E5 z rsG aR cR),(Ej z qsG aQ cQ),(Jz y42 n33),(Js z y42 ar cr kp),(IC z y42 aq cq kp)]⟩ a w') (12 - 0) ?_ ?_
  ·intro a w' hs;exact⟨n49,0,ax43,cp44,ax47,cp48,rfl,Nat.le_refl _,Nat.zero_le _,(by(try dsimp only[Kq,Jw,CQ,CO,Jz,CJ,Js,IC,IE,DZ,CY,E5,Ej,GV,L9,JV,F5,EU,BK,BM,Cf,Ib]at hs ⊢);rw[Rn,Rn,List.append_nil,List.append_nil];exact hs)⟩
  rintro m a w' ⟨n52,kp,ar,cr,aq,cq,rfl,hn51,hkkp,hs⟩
  refine(?_:G Try.prog 183 [(1,pt z),(BK z),(BM z),(Cf z),(Ib n33),(L9 y42 ar cr kp),(JV y42 aq cq kp),(F5 c),(61,Ad p),(77,Ad kp)] [] ⟨w,n52,[(Ak w),(CJ z c),(CQ z),(CO z),(Kq z aC csG cC aW wsG cW psG rsG qsG aR cR aQ cQ aP cP),(AA z 73 3 Am.cells wsG),(DZ z aC csG cC),(CY z aW wsG cW),(AA z 54 4 Ar.cells rsG),(AA z 75 2 AC.cells qsG),(GV z psG aP cP),(E5 z rsG aR cR),(Ej z qsG aQ cQ),(Jz y42 n33),(Js z y42 ar cr kp),(IC z y42 aq cq kp)]⟩ _ _ _) a w' hs
  clear hs a w'
  have hfl:(y42.Ag.xs++BL JC kp).length=y42.Ag.xs.length+kp:=by rw[List.length_append,Dv]
  have hfq:(y42.Ai.xs++BL KI kp).length=y42.Ai.xs.length+kp:=by rw[List.length_append,Dv]
  refine CP ?_
  by_cases h53:(kp:Int)<12
  ·refine q_c 15 5 [1] [[oT],[o0,o0],[o0,o0,(ov (i6 ((-70) - (kp:Int)))),o0,o0]] [BT ((kp:Int)<12),Wr ((-70:Int) - (kp:Int)) ((-70) - (kp:Int))] [(1,pt z),(BK z),(BM z),(Cf z),(Ib n33),(JV y42 aq cq kp),(F5 c),(61,Ad p),(77,Ad kp),(12,Ad kp),(80,.slice ar ((y42.Ag.xs++BL JC kp).length) cr),(84,.slice (some ⟨n52,0,none⟩) 1 1)] ⟨w,n52+1,[(Ak w),(CJ z c),(CQ z),(CO z),(Kq z aC csG cC aW wsG cW psG rsG qsG aR cR aQ cQ aP cP),(AA z 73 3 Am.cells wsG),(DZ z aC csG cC),(CY z aW wsG cW),(AA z 54 4 Ar.cells rsG),(AA z 75 2 AC.cells qsG),(GV z psG aP cP),(E5 z rsG aR cR),(Ej z qsG aQ cQ),(Jz y42 n33),(Js z y42 ar cr kp),(IC z y42 aq cq kp),(WM kp n52)]⟩ rfl ⟨bt,Be,Ae⟩ ?_
   refine Fe z 14 16 (y42.Ag.xs++BL JC kp) [(⟨(-70) - (kp:Int),0,0,0⟩:Ar)] Ar.cells 54 4 32 (.slice ar ((y42.Ag.xs++BL JC kp).length) cr) n52 1 1 #[i6 ((-70) - (kp:Int)),i6 0,i6 0,i6 0] 54 (0,0) true (some 85) (by(try simp only[List.length_cons,List.length_nil,List.nil_append,List.length_append,Dv]);omega) (show z≤n52+1 by omega) (fun ax54 cp55 n56 (hn57:n52+1≤n56) => ?_)
   refine Hu 3 5 [] [[o0],[o0,o0,(ov (i6 ((-70) - (kp:Int)))),o0,o0]] [Wr ((-70:Int) - (kp:Int)) ((-70) - (kp:Int))] [(1,pt z),(BK z),(BM z),(Cf z),(Ib n33),(F5 c),(61,Ad p),(77,Ad kp),(Ve y42 kp ax54 cp55),(86,.slice aq ((y42.Ai.xs++BL KI kp).length) cq),(90,.slice (some ⟨n56,0,none⟩) 1 1)] ⟨w,n56+1,[(Ak w),(CJ z c),(CQ z),(CO z),(Kq z aC csG cC aW wsG cW psG rsG qsG aR cR aQ cQ aP cP),(AA z 73 3 Am.cells wsG),(DZ z aC csG cC),(CY z aW wsG cW),(AA z 54 4 Ar.cells rsG),(AA z 75 2 AC.cells qsG),(GV z psG aP cP),(E5 z rsG aR cR),(Ej z qsG aQ cQ),(Jz y42 n33),(Xa z y42 kp ax54 cp55),(IC z y42 aq cq kp),(WM kp n52),(bk n56 #[i6 ((-70) - (kp:Int)),.bool false] 75)]⟩ rfl ⟨Be,Ae⟩ ?_
   refine Fe z 15 17 (y42.Ai.xs++BL KI kp) [(⟨(-70) - (kp:Int),false⟩:AC)] AC.cells 75 2 16 (.slice aq ((y42.Ai.xs++BL KI kp).length) cq) n56 1 1 #[i6 ((-70) - (kp:Int)),.bool false] 75 (0,0) true (some 91) (by(try simp only[List.length_cons,List.length_nil,List.nil_append,List.length_append,Dv]);omega) (show z≤n56+1 by omega) (fun ax58 cp59 n60 (hn61:n56+1≤n60) => ?_)
   refine Di 5 0 [] [[o0],[(ov (i6 ((kp+1:Nat):Int))),o0]] [Wr ((kp:Int)+1) (((kp+1:Nat):Int))] [(1,pt z),(BK z),(BM z),(Cf z),(Ib n33),(F5 c),(61,Ad p),(77,i6 ((kp+1:Nat):Int)),(Ve y42 kp ax54 cp55),(11,.slice ax58 (((y42.Ai.xs++BL KI kp)++[(⟨(-70) - (kp:Int),false⟩:AC)]).length) cp59)] rfl ⟨Be,Ae⟩ ?_
   refine BO [0,1,2,3,4,5,6,7,8,9,10,11,12,13,14,15] [(Ak w),(CJ z c),(CQ z),(CO z),(Kq z aC csG cC aW wsG cW psG rsG qsG aR cR aQ cQ aP cP),(AA z 73 3 Am.cells wsG),(DZ z aC csG cC),(CY z aW wsG cW),(AA z 54 4 Ar.cells rsG),(AA z 75 2 AC.cells qsG),(GV z psG aP cP),(E5 z rsG aR cR),(Ej z qsG aQ cQ),(Jz y42 n33),(Xa z y42 kp ax54 cp55),(AV z 75 2 AC.cells (.slice ax58 (((y42.Ai.xs++BL KI kp)++[(⟨(-70) - (kp:Int),false⟩:AC)]).length) cp59) ((y42.Ai.xs++BL KI kp)++[(⟨(-70) - (kp:Int),false⟩:AC)]))] rfl rfl ?_
   refine Dp [1,2,3,4,9,10,11,60,61,77] [(1,pt z),(BK z),(BM z),(Cf z),(Ib n33),(Ve y42 kp ax54 cp55),(11,.slice ax58 (((y42.Ai.xs++BL KI kp)++[(⟨(-70) - (kp:Int),false⟩:AC)]).length) cp59),(F5 c),(61,Ad p),(77,i6 ((kp+1:Nat):Int))] ?_
   refine Bz (fun a w' hs=>⟨12 - (kp+1),by omega,n60,(kp+1),ax54,cp55,ax58,cp59,rfl,by omega,by omega,(by(try dsimp only[Kq,Jw,CQ,CO,WM,Jz,CJ,Xa,Js,IC,IE,DZ,CY,E5,Ej,GV,Ve,L9,JV,F5,EU,BK,BM,Cf,Ib]at hs ⊢);rw[QV,QV,←List.append_assoc,←List.append_assoc];exact hs)⟩)
  refine q_c 12 4 [0] [[oF],[o0,(a1 4),o0,o0]] [BF ((kp:Int)<12),Qb (z+3)] [(1,pt z),(BK z),(BM z),(Cf z),(Ib n33),(L9 y42 ar cr kp),(JV y42 aq cq kp),(F5 c),(61,Ad p),(94,.slice aR rsG.length cR),(96,.slice (some ⟨n52,0,none⟩) 1 1)] ⟨w,n52+1,[(Ak w),(CJ z c),(CQ z),(CO z),(Kq z aC csG cC aW wsG cW psG rsG qsG aR cR aQ cQ aP cP),(AA z 73 3 Am.cells wsG),(DZ z aC csG cC),(CY z aW wsG cW),(AA z 54 4 Ar.cells rsG),(AA z 75 2 AC.cells qsG),(GV z psG aP cP),(E5 z rsG aR cR),(Ej z qsG aQ cQ),(Jz y42 n33),(Js z y42 ar cr kp),(IC z y42 aq cq kp),(O7 y42 ar cr kp n52)]⟩ rfl ⟨bf,rfl,Ae⟩ ?_
  refine Fe z 11 16 rsG [(⟨ar,cr,(y42.Ag.xs++BL JC kp)⟩:Sl Ar)] (fun x:Sl Ar=>[Sl.val x]) 49 1 24 (.slice aR rsG.length cR) n52 1 1 #[.slice ar ((y42.Ag.xs++BL JC kp).length) cr] 49 (0,0) true (some 97) (by(try simp only[List.length_cons,List.length_nil,List.nil_append,List.length_append,Dv]);omega) (show z≤n52+1 by omega) (fun ax62 cp63 n64 (hn65:n52+1≤n64) => ?_)
  refine Hu 4 4 [] [[o0,(a1 4)],[o0,(a1 4),o0,o0]] [Qb (z+3),Qb (z+3)] [(1,pt z),(BK z),(BM z),(Cf z),(Ib n33),(L9 y42 ar cr kp),(JV y42 aq cq kp),(F5 c),(61,Ad p),(100,.slice aQ qsG.length cQ),(102,.slice (some ⟨n64,0,none⟩) 1 1)] ⟨w,n64+1,[(Ak w),(CJ z c),(CQ z),(CO z),(bk (z+3) #[.slice aC csG.length cC,.slice aW wsG.length cW,.slice aP psG.length cP,.slice ax62 ((rsG++[(⟨ar,cr,(y42.Ag.xs++BL JC kp)⟩:Sl Ar)]).length) cp63,.slice aQ qsG.length cQ,.slice none 0 0] 44),(AA z 73 3 Am.cells wsG),(DZ z aC csG cC),(CY z aW wsG cW),(AA z 54 4 Ar.cells rsG),(AA z 75 2 AC.cells qsG),(GV z psG aP cP),(OB z y42 ar cr ax62 rsG kp cp63),(Ej z qsG aQ cQ),(Jz y42 n33),(Js z y42 ar cr kp),(IC z y42 aq cq kp),(O7 y42 ar cr kp n52),(Py y42 aq cq kp n64)]⟩ rfl ⟨rfl,rfl,Ae⟩ ?_
  refine Fe z 12 17 qsG [(⟨aq,cq,(y42.Ai.xs++BL KI kp)⟩:Sl AC)] (fun x:Sl AC=>[Sl.val x]) 50 1 24 (.slice aQ qsG.length cQ) n64 1 1 #[.slice aq ((y42.Ai.xs++BL KI kp).length) cq] 50 (0,0) true (some 103) (by(try simp only[List.length_cons,List.length_nil,List.nil_append,List.length_append,Dv]);omega) (show z≤n64+1 by omega) (fun ax66 cp67 n68 (hn69:n64+1≤n68) => ?_)
  refine Hu 3 0 [] [[o0,(a1 4)]] [Qb (z+3)] [(1,pt z),(BK z),(BM z),(Cf z),(Ib n33),(L9 y42 ar cr kp),(JV y42 aq cq kp),(F5 c),(61,Ad p)] ⟨w,n68,[(Ak w),(CJ z c),(CQ z),(CO z),(bk (z+3) #[.slice aC csG.length cC,.slice aW wsG.length cW,.slice aP psG.length cP,.slice ax62 ((rsG++[(⟨ar,cr,(y42.Ag.xs++BL JC kp)⟩:Sl Ar)]).length) cp63,.slice ax66 ((qsG++[(⟨aq,cq,(y42.Ai.xs++BL KI kp)⟩:Sl AC)]).length) cp67,.slice none 0 0] 44),(AA z 73 3 Am.cells wsG),(DZ z aC csG cC),(CY z aW wsG cW),(AA z 54 4 Ar.cells rsG),(AA z 75 2 AC.cells qsG),(GV z psG aP cP),(OB z y42 ar cr ax62 rsG kp cp63),(PI z y42 aq cq kp ax66 qsG cp67),(Jz y42 n33),(Js z y42 ar cr kp),(IC z y42 aq cq kp),(O7 y42 ar cr kp n52),(Py y42 aq cq kp n64)]⟩ rfl ⟨rfl,Ae⟩ ?_
  refine PM (base:=z) (e:=54) (sz:=4) (cells:=Ar.cells) (a:=ar) (n:=((y42.Ag.xs++BL JC kp).length)) (cap:=cr) (xs:=(y42.Ag.xs++BL JC kp)) 14 rfl (fun hcap70 => ?_)
  simp only[List.length_append,Dv]at hcap70
  refine q_c 4 0 [] [[o0,o0,(a1 13),o0,⟨.slc 0 y42.Ag.xs.length false,none⟩,o0,(a1 13)]] [Qb n33,(0:Int)=((0:Nat):Int),(y42.Ag.xs.length:Int)=(y42.Ag.xs.length:Int),0≤y42.Ag.xs.length,y42.Ag.xs.length≤cr,cr=0∨(0:Nat)=0,Qb n33] [(1,pt z),(BK z),(BM z),(Cf z),(Ib n33),(JV y42 aq cq kp),(F5 c),(61,Ad p)] ⟨w,n68,[(Ak w),(CJ z c),(CQ z),(CO z),(bk (z+3) #[.slice aC csG.length cC,.slice aW wsG.length cW,.slice aP psG.length cP,.slice ax62 ((rsG++[(⟨ar,cr,(y42.Ag.xs++BL JC kp)⟩:Sl Ar)]).length) cp63,.slice ax66 ((qsG++[(⟨aq,cq,(y42.Ai.xs++BL KI kp)⟩:Sl AC)]).length) cp67,.slice none 0 0] 44),(AA z 73 3 Am.cells wsG),(DZ z aC csG cC),(CY z aW wsG cW),(AA z 54 4 Ar.cells rsG),(AA z 75 2 AC.cells qsG),(GV z psG aP cP),(OB z y42 ar cr ax62 rsG kp cp63),(PI z y42 aq cq kp ax66 qsG cp67),(bk n33 #[.string y42.Name,i6 y42.Entry,i6 y42.Ef,i6 y42.Dl,i6 y42.Eg,i6 y42.DD,.slice ar (y42.Ag.xs.length - 0) (cr - 0),.slice y42.Ai.a y42.Ai.xs.length y42.Ai.cap] 52),(Js z y42 ar cr kp),(IC z y42 aq cq kp),(O7 y42 ar cr kp n52),(Py y42 aq cq kp n64)]⟩ rfl ⟨rfl,rfl,rfl,(by omega),(by omega),.inr rfl,rfl,Ae⟩ ?_
  refine PM (base:=z) (e:=75) (sz:=2) (cells:=AC.cells) (a:=aq) (n:=((y42.Ai.xs++BL KI kp).length)) (cap:=cq) (xs:=(y42.Ai.xs++BL KI kp)) 15 rfl (fun hcap71 => ?_)
  simp only[List.length_append,Dv]at hcap71
  refine q_c 4 4 [] [[o0,o0,(a1 13),o0,⟨.slc 0 y42.Ai.xs.length false,none⟩,o0,(a1 13)],[o0,(a1 4),(an 8 13),o0]] [Qb n33,(0:Int)=((0:Nat):Int),(y42.Ai.xs.length:Int)=(y42.Ai.xs.length:Int),0≤y42.Ai.xs.length,y42.Ai.xs.length≤cq,cq=0∨(0:Nat)=0,Qb n33,Qb (z+3),Qb n33,Qb n33,Qb n33,Qb n33,Qb n33,Qb n33,Qb n33,Qb n33] [(1,pt z),(BK z),(BM z),(Cf z),(F5 c),(61,Ad p),(118,.slice aP psG.length cP),(120,.slice (some ⟨n68,0,none⟩) 1 1)] ⟨w,n68+1,[(Ak w),(CJ z c),(CQ z),(CO z),(bk (z+3) #[.slice aC csG.length cC,.slice aW wsG.length cW,.slice aP psG.length cP,.slice ax62 ((rsG++[(⟨ar,cr,(y42.Ag.xs++BL JC kp)⟩:Sl Ar)]).length) cp63,.slice ax66 ((qsG++[(⟨aq,cq,(y42.Ai.xs++BL KI kp)⟩:Sl AC)]).length) cp67,.slice none 0 0] 44),(AA z 73 3 Am.cells wsG),(DZ z aC csG cC),(CY z aW wsG cW),(AA z 54 4 Ar.cells rsG),(AA z 75 2 AC.cells qsG),(GV z psG aP cP),(OB z y42 ar cr ax62 rsG kp cp63),(PI z y42 aq cq kp ax66 qsG cp67),(Ws y42 ar cr aq cq n33),(Js z y42 ar cr kp),(IC z y42 aq cq kp),(O7 y42 ar cr kp n52),(Py y42 aq cq kp n64),(Wn y42 ar cr aq cq n68)]⟩ rfl ⟨rfl,rfl,rfl,(by omega),(by omega),.inr rfl,rfl,rfl,rfl,rfl,rfl,rfl,rfl,rfl,rfl,rfl,Ae⟩ ?_
  refine Fe z 10 18 psG [(⟨y42.Name,y42.Entry,y42.Ef,y42.Dl,y42.Eg,y42.DD,(⟨ar,cr - 0,y42.Ag.xs⟩:Sl Ar),(⟨aq,cq - 0,y42.Ai.xs⟩:Sl AC)⟩:Ah)] Ah.cells 52 8 104 (.slice aP psG.length cP) n68 1 1 #[.string y42.Name,i6 y42.Entry,i6 y42.Ef,i6 y42.Dl,i6 y42.Eg,i6 y42.DD,.slice ar (y42.Ag.xs.length - 0) (cr - 0),.slice aq (y42.Ai.xs.length - 0) (cq - 0)] 52 (0,0) true (some 121) (by(try simp only[List.length_cons,List.length_nil,List.nil_append,List.length_append,Dv]);omega) (show z≤n68+1 by omega) (fun ax72 cp73 n74 (hn75:n68+1≤n74) => ?_)
  refine Hu 5 0 [] [[o0,(a1 4)],[(ov (i6 ((p+1:Nat):Int))),o0]] [Qb (z+3),Wr ((p:Int)+1) (((p+1:Nat):Int))] [(1,pt z),(BK z),(BM z),(Cf z),(F5 c),(61,i6 ((p+1:Nat):Int))] ⟨w,n74,[(Ak w),(CJ z c),(CQ z),(CO z),(Wl z aC csG cC aW wsG cW ax72 psG y42 ar cr aq cq cp73 ax62 rsG kp cp63 ax66 qsG cp67),(AA z 73 3 Am.cells wsG),(DZ z aC csG cC),(CY z aW wsG cW),(AA z 54 4 Ar.cells rsG),(AA z 75 2 AC.cells qsG),(UX z ax72 psG y42 ar cr aq cq cp73),(OB z y42 ar cr ax62 rsG kp cp63),(PI z y42 aq cq kp ax66 qsG cp67),(Ws y42 ar cr aq cq n33),(Js z y42 ar cr kp),(IC z y42 aq cq kp),(O7 y42 ar cr kp n52),(Py y42 aq cq kp n64),(Wn y42 ar cr aq cq n68)]⟩ rfl ⟨rfl,Be,Ae⟩ ?_
  refine Qk 8 14 [0,1,2,3,4,5,6,7,9,10,11,12,13,15,16,17,18] (a:=ar) (cap:=cr) (xs:=(y42.Ag.xs++BL JC kp)) [(Ak w),(CJ z c),(CQ z),(CO z),(Wl z aC csG cC aW wsG cW ax72 psG y42 ar cr aq cq cp73 ax62 rsG kp cp63 ax66 qsG cp67),(AA z 73 3 Am.cells wsG),(DZ z aC csG cC),(CY z aW wsG cW),(AA z 75 2 AC.cells qsG),(UX z ax72 psG y42 ar cr aq cq cp73),(OB z y42 ar cr ax62 rsG kp cp63),(PI z y42 aq cq kp ax66 qsG cp67),(Ws y42 ar cr aq cq n33),(IC z y42 aq cq kp),(O7 y42 ar cr kp n52),(Py y42 aq cq kp n64),(Wn y42 ar cr aq cq n68)] ?_
  refine Qk 8 13 [0,1,2,3,4,5,6,7,9,10,11,12,14,15,16,17] (a:=aq) (cap:=cq) (xs:=(y42.Ai.xs++BL KI kp)) [(Ak w),(CJ z c),(CQ z),(CO z),(Wl z aC csG cC aW wsG cW ax72 psG y42 ar cr aq cq cp73 ax62 rsG kp cp63 ax66 qsG cp67),(AA z 73 3 Am.cells wsG),(DZ z aC csG cC),(CY z aW wsG cW),(UX z ax72 psG y42 ar cr aq cq cp73),(OB z y42 ar cr ax62 rsG kp cp63),(PI z y42 aq cq kp ax66 qsG cp67),(Ws y42 ar cr aq cq n33),(O7 y42 ar cr kp n52),(Py y42 aq cq kp n64),(Wn y42 ar cr aq cq n68),(AA z 54 4 Ar.cells (rsG++[⟨ar,cr,(y42.Ag.xs++BL JC kp)⟩]))] ?_
  refine BO [0,1,2,3,4,5,6,7,15,16,8,9,10] [(Ak w),(CJ z c),(CQ z),(CO z),(Wl z aC csG cC aW wsG cW ax72 psG y42 ar cr aq cq cp73 ax62 rsG kp cp63 ax66 qsG cp67),(AA z 73 3 Am.cells wsG),(DZ z aC csG cC),(CY z aW wsG cW),(AA z 54 4 Ar.cells (rsG++[⟨ar,cr,(y42.Ag.xs++BL JC kp)⟩])),(AA z 75 2 AC.cells (qsG++[⟨aq,cq,(y42.Ai.xs++BL KI kp)⟩])),(UX z ax72 psG y42 ar cr aq cq cp73),(OB z y42 ar cr ax62 rsG kp cp63),(PI z y42 aq cq kp ax66 qsG cp67)] rfl rfl ?_
  refine Dp [1,2,3,4,60,61] [(1,pt z),(BK z),(BM z),(Cf z),(F5 c),(61,i6 ((p+1:Nat):Int))] ?_
  refine Bz (fun a w' hs=>⟨c.Aa.xs.length - (p+1),by omega,n74,(p+1),(psG++[(⟨y42.Name,y42.Entry,y42.Ef,y42.Dl,y42.Eg,y42.DD,(⟨ar,cr - 0,y42.Ag.xs⟩:Sl Ar),(⟨aq,cq - 0,y42.Ai.xs⟩:Sl AC)⟩:Ah)]),(rsG++[(⟨ar,cr,(y42.Ag.xs++BL JC kp)⟩:Sl Ar)]),(qsG++[(⟨aq,cq,(y42.Ai.xs++BL KI kp)⟩:Sl AC)]),ax72,cp73,ax62,cp63,ax66,cp67,rfl,by omega,by omega,prt_in hPr hy42 (by rw[show kp=12 by omega];rfl) (by rw[show kp=12 by omega];rfl),hs⟩)
 refine A8 12 4 [0] [[oF],[o0,(a1 4),o0,(a1 1)]] [BF ((p:Int)<(c.Aa.xs.length:Int)),Qb (z+3),Qb z] [(1,pt z),(BK z),(BM z),(Cf z),(125,.slice none 0 0),(127,.slice c.Ac.a c.Ac.xs.length c.Ac.cap)] rfl ⟨bf,rfl,rfl,Ae⟩ ?_
 refine Pn z 77 3 Aw.cells ?_
 refine O3 z 13 0 ([]) c.Ac.xs c.Ac.a Aw.cells 77 3 24 (.slice none 0 0) c.Ac.xs.length c.Ac.cap (Ak w) (some 128) (by(try simp only[List.length_cons,List.length_nil,List.nil_append,List.length_append,Dv]);omega) (show z≤n33 by omega) (fun w' hw=>O9 (fun b k v _ hv=>BA hv w' hw) (fun _ h=>h) (hc.Ac).1) (fun ax76 cp77 n78 (hn79:n33≤n78) => ?_)
 refine Hu 8 0 [] [[o0,(a1 4)],[o0]] [Qb (z+3)] [(1,pt z),(BK z),(BM z),(Cf z),(130,i6 0)] ⟨w,n78,[(Ak w),(CJ z c),(CQ z),(CO z),(bk (z+3) #[.slice aC csG.length cC,.slice aW wsG.length cW,.slice aP psG.length cP,.slice aR rsG.length cR,.slice aQ qsG.length cQ,.slice ax76 (([]++c.Ac.xs).length) cp77] 44),(AA z 73 3 Am.cells wsG),(DZ z aC csG cC),(CY z aW wsG cW),(AA z 54 4 Ar.cells rsG),(AA z 75 2 AC.cells qsG),(GV z psG aP cP),(E5 z rsG aR cR),(Ej z qsG aQ cQ),(AV z 77 3 Aw.cells (.slice ax76 (([]++c.Ac.xs).length) cp77) ([]++c.Ac.xs))]⟩ rfl ⟨rfl,Ae⟩ ?_
 refine OZ z 73 3 Am.cells ?_
 refine Ce (fun m a w'=>∃ (n81:Nat) (k:Nat) (spG:List (Sl Am)) (aD:Option Addr) (cD:Nat) (aE:Option Addr) (cE:Nat) (aH:Option Addr) (cH:Nat),m=12 - k∧n78≤n81∧(k≤12)∧(Xb k spG)∧St 183 [(1,pt z),(BK z),(BM z),(Cf z),(130,Ad k)] [] ⟨w,n81,[(Ak w),(CJ z c),(CQ z),(CO z),(KY z csG aW wsG cW psG rsG qsG spG k aR cR aQ cQ c aD cD aE cE aH cH),(AA z 73 3 Am.cells wsG),(JL z csG spG aD cD),(CY z aW wsG cW),(AA z 54 4 Ar.cells rsG),(AA z 75 2 AC.cells qsG),(Ju z psG k aE cE),(E5 z rsG aR cR),(Ej z qsG aQ cQ),(Jh z k c aH cH),(AA z 73 3 Am.cells spG)]⟩ a w') (12 - 0) ?_ ?_
 ·intro a w' hs;exact⟨n78,0,([]),aC,cC,aP,cP,ax76,cp77,rfl,Nat.le_refl _,Nat.zero_le _,sp_nil,(by(try dsimp only[KY,Kq,Jw,CQ,CO,Jz,CJ,Js,Jh,IC,JL,IE,Ju,DZ,CY,E5,Ej,GV,L9,JV,F5,EU,BK,BM,Cf,Ib]at hs ⊢);rw[Rn,Rn,List.append_nil,List.append_nil,List.append_nil];exact hs)⟩
 rintro m a w' ⟨n81,k,spG,aD,cD,aE,cE,aH,cH,rfl,hn80,hkk,hSp,hs⟩
 refine(?_:G Try.prog 183 [(1,pt z),(BK z),(BM z),(Cf z),(130,Ad k)] [] ⟨w,n81,[(Ak w),(CJ z c),(CQ z),(CO z),(KY z csG aW wsG cW psG rsG qsG spG k aR cR aQ cQ c aD cD aE cE aH cH),(AA z 73 3 Am.cells wsG),(JL z csG spG aD cD),(CY z aW wsG cW),(AA z 54 4 Ar.cells rsG),(AA z 75 2 AC.cells qsG),(Ju z psG k aE cE),(E5 z rsG aR cR),(Ej z qsG aQ cQ),(Jh z k c aH cH),(AA z 73 3 Am.cells spG)]⟩ _ _ _) a w' hs
 clear hs a w'
 have hls:=hSp.1
 have hfc:(csG++spG).length=csG.length+spG.length:=List.length_append
 have hfp:(psG++BL Gj k).length=psG.length+k:=by rw[List.length_append,Dv]
 have hfh:(c.Ac.xs++BL GY k).length=c.Ac.xs.length+k:=by rw[List.length_append,Dv]
 refine CP ?_
 by_cases h82:(k:Int)<12
 ·refine q_c 15 7 [1] [[oT],[o0,o0],[o0,(a1 4),o0,(ov (i6 ((-70) - (k:Int)))),o0,o0,o0]] [BT ((k:Int)<12),Qb (z+3),Wr ((-70:Int) - (k:Int)) ((-70) - (k:Int))] [(1,pt z),(BK z),(BM z),(Cf z),(130,Ad k),(13,Ad k),(134,.slice aD ((csG++spG).length) cD),(139,.slice (some ⟨n81+1,0,none⟩) 1 1)] ⟨w,n81+2,[(Ak w),(CJ z c),(CQ z),(CO z),(KY z csG aW wsG cW psG rsG qsG spG k aR cR aQ cQ c aD cD aE cE aH cH),(AA z 73 3 Am.cells wsG),(JL z csG spG aD cD),(CY z aW wsG cW),(AA z 54 4 Ar.cells rsG),(AA z 75 2 AC.cells qsG),(Ju z psG k aE cE),(E5 z rsG aR cR),(Ej z qsG aQ cQ),(Jh z k c aH cH),(AA z 73 3 Am.cells spG),(Sz n81 k),(Pz n81)]⟩ rfl ⟨bt,rfl,Be,Ae⟩ ?_
  refine Fe z 6 16 (csG++spG) [(⟨some ⟨n81,0,none⟩,1,[Gh k]⟩:Sl Am)] (fun x:Sl Am=>[Sl.val x]) 57 1 24 (.slice aD ((csG++spG).length) cD) (n81+1) 1 1 #[.slice (some ⟨n81,0,none⟩) 1 1] 57 (0,0) true (some 140) (by(try simp only[List.length_cons,List.length_nil,List.nil_append,List.length_append,Dv]);omega) (show z≤n81+2 by omega) (fun ax83 cp84 n85 (hn86:n81+2≤n85) => ?_)
  refine Hu 4 6 [] [[o0,(a1 4)],[o0,(a1 4),o0,(ov (i6 ((-70) - (k:Int)))),o0,o0]] [Qb (z+3),Qb (z+3),Wr ((-70:Int) - (k:Int)) ((-70) - (k:Int))] [(1,pt z),(BK z),(BM z),(Cf z),(130,Ad k),(13,Ad k),(143,.slice aE ((psG++BL Gj k).length) cE),(147,.slice (some ⟨n85,0,none⟩) 1 1)] ⟨w,n85+1,[(Ak w),(CJ z c),(CQ z),(CO z),(.blk (z+3) (.cells #[.slice ax83 (((csG++spG)++[(⟨some ⟨n81,0,none⟩,1,[Gh k]⟩:Sl Am)]).length) cp84,.slice aW wsG.length cW,.slice aE ((psG++BL Gj k).length) cE,.slice aR rsG.length cR,.slice aQ qsG.length cQ,.slice aH ((c.Ac.xs++BL GY k).length) cH] 44 (0,0)) true),(AA z 73 3 Am.cells wsG),(Pq z csG ax83 spG n81 k cp84),(CY z aW wsG cW),(AA z 54 4 Ar.cells rsG),(AA z 75 2 AC.cells qsG),(Ju z psG k aE cE),(E5 z rsG aR cR),(Ej z qsG aQ cQ),(Jh z k c aH cH),(AA z 73 3 Am.cells spG),(Sz n81 k),(Pz n81),(Qx k n85)]⟩ rfl ⟨rfl,rfl,Be,Ae⟩ ?_
  refine Fe z 10 17 (psG++BL Gj k) [(⟨⟨#[]⟩,(-70) - (k:Int),0,0,0,0,(⟨none,0,[]⟩:Sl Ar),(⟨none,0,[]⟩:Sl AC)⟩:Ah)] Ah.cells 52 8 104 (.slice aE ((psG++BL Gj k).length) cE) n85 1 1 #[.string (⟨#[]⟩),i6 ((-70) - (k:Int)),i6 0,i6 0,i6 0,i6 0,.slice none 0 0,.slice none 0 0] 52 (0,0) true (some 148) (by(try simp only[List.length_cons,List.length_nil,List.nil_append,List.length_append,Dv]);omega) (show z≤n85+1 by omega) (fun ax87 cp88 n89 (hn90:n85+1≤n89) => ?_)
  refine Hu 3 6 [] [[o0,(a1 4)],[o0,(a1 4),o0,(ov (i6 ((-70) - (k:Int)))),o0,o0]] [Qb (z+3),Qb (z+3),Wr ((-70:Int) - (k:Int)) ((-70) - (k:Int))] [(1,pt z),(BK z),(BM z),(Cf z),(130,Ad k),(151,.slice aH ((c.Ac.xs++BL GY k).length) cH),(155,.slice (some ⟨n89,0,none⟩) 1 1)] ⟨w,n89+1,[(Ak w),(CJ z c),(CQ z),(CO z),(.blk (z+3) (.cells #[.slice ax83 (((csG++spG)++[(⟨some ⟨n81,0,none⟩,1,[Gh k]⟩:Sl Am)]).length) cp84,.slice aW wsG.length cW,.slice ax87 (((psG++BL Gj k)++[(⟨⟨#[]⟩,(-70) - (k:Int),0,0,0,0,(⟨none,0,[]⟩:Sl Ar),(⟨none,0,[]⟩:Sl AC)⟩:Ah)]).length) cp88,.slice aR rsG.length cR,.slice aQ qsG.length cQ,.slice aH ((c.Ac.xs++BL GY k).length) cH] 44 (0,0)) true),(AA z 73 3 Am.cells wsG),(Pq z csG ax83 spG n81 k cp84),(CY z aW wsG cW),(AA z 54 4 Ar.cells rsG),(AA z 75 2 AC.cells qsG),(Q8 z psG k ax87 cp88),(E5 z rsG aR cR),(Ej z qsG aQ cQ),(Jh z k c aH cH),(AA z 73 3 Am.cells spG),(Sz n81 k),(Pz n81),(Qx k n85),(SY k n89)]⟩ rfl ⟨rfl,rfl,Be,Ae⟩ ?_
  refine Fe z 13 18 (c.Ac.xs++BL GY k) [(⟨(-70) - (k:Int),0,0⟩:Aw)] Aw.cells 77 3 24 (.slice aH ((c.Ac.xs++BL GY k).length) cH) n89 1 1 #[i6 ((-70) - (k:Int)),i6 0,i6 0] 77 (0,0) true (some 156) (by(try simp only[List.length_cons,List.length_nil,List.nil_append,List.length_append,Dv]);omega) (show z≤n89+1 by omega) (fun ax91 cp92 n93 (hn94:n89+1≤n93) => ?_)
  refine Hu 5 0 [] [[o0,(a1 4)],[(ov (i6 ((k+1:Nat):Int))),o0]] [Qb (z+3),Wr ((k:Int)+1) (((k+1:Nat):Int))] [(1,pt z),(BK z),(BM z),(Cf z),(130,i6 ((k+1:Nat):Int))] ⟨w,n93,[(Ak w),(CJ z c),(CQ z),(CO z),(U3 z csG aW wsG cW psG rsG qsG ax83 spG n81 k cp84 ax87 cp88 aR cR aQ cQ ax91 c cp92),(AA z 73 3 Am.cells wsG),(Pq z csG ax83 spG n81 k cp84),(CY z aW wsG cW),(AA z 54 4 Ar.cells rsG),(AA z 75 2 AC.cells qsG),(Q8 z psG k ax87 cp88),(E5 z rsG aR cR),(Ej z qsG aQ cQ),(TG z k ax91 c cp92),(AA z 73 3 Am.cells spG),(Sz n81 k),(Pz n81),(Qx k n85),(SY k n89)]⟩ rfl ⟨rfl,Be,Ae⟩ ?_
  refine e_blkrow 15 n81 z 73 3 Am.cells [Gh k] #[i6 ((-70) - (k:Int)),i6 0,i6 0] (by omega) (?_:E _ _ _ _ ⟨w,n93,[(Ak w),(CJ z c),(CQ z),(CO z),(U3 z csG aW wsG cW psG rsG qsG ax83 spG n81 k cp84 ax87 cp88 aR cR aQ cQ ax91 c cp92),(AA z 73 3 Am.cells wsG),(Pq z csG ax83 spG n81 k cp84),(CY z aW wsG cW),(AA z 54 4 Ar.cells rsG),(AA z 75 2 AC.cells qsG),(Q8 z psG k ax87 cp88),(E5 z rsG aR cR),(Ej z qsG aQ cQ),(TG z k ax91 c cp92),(AA z 73 3 Am.cells spG),(AV z 73 3 Am.cells (.slice (some ⟨n81,0,none⟩) 1 1) ([Gh k])),(Pz n81),(Qx k n85),(SY k n89)]⟩ _ _ _)
  refine Qk 14 15 [0,1,2,3,4,5,6,7,8,9,10,11,12,13,16,17,18] (a:=(some ⟨n81,0,none⟩)) (cap:=1) (xs:=([Gh k])) [(Ak w),(CJ z c),(CQ z),(CO z),(U3 z csG aW wsG cW psG rsG qsG ax83 spG n81 k cp84 ax87 cp88 aR cR aQ cQ ax91 c cp92),(AA z 73 3 Am.cells wsG),(Pq z csG ax83 spG n81 k cp84),(CY z aW wsG cW),(AA z 54 4 Ar.cells rsG),(AA z 75 2 AC.cells qsG),(Q8 z psG k ax87 cp88),(E5 z rsG aR cR),(Ej z qsG aQ cQ),(TG z k ax91 c cp92),(Pz n81),(Qx k n85),(SY k n89)] ?_
  refine BO [0,1,2,3,4,5,6,7,8,9,10,11,12,13,17] [(Ak w),(CJ z c),(CQ z),(CO z),(U3 z csG aW wsG cW psG rsG qsG ax83 spG n81 k cp84 ax87 cp88 aR cR aQ cQ ax91 c cp92),(AA z 73 3 Am.cells wsG),(Pq z csG ax83 spG n81 k cp84),(CY z aW wsG cW),(AA z 54 4 Ar.cells rsG),(AA z 75 2 AC.cells qsG),(Q8 z psG k ax87 cp88),(E5 z rsG aR cR),(Ej z qsG aQ cQ),(TG z k ax91 c cp92),(AA z 73 3 Am.cells (spG++[⟨(some ⟨n81,0,none⟩),1,[Gh k]⟩]))] rfl rfl ?_
  refine Dp [1,2,3,4,130] [(1,pt z),(BK z),(BM z),(Cf z),(130,i6 ((k+1:Nat):Int))] ?_
  refine Bz (fun a w' hs=>⟨12 - (k+1),by omega,n93,(k+1),(spG++[⟨(some ⟨n81,0,none⟩),1,[Gh k]⟩]),ax83,cp84,ax87,cp88,ax91,cp92,rfl,by omega,by omega,sp_in hSp,(by(try dsimp only[U3,KY,Kq,Qx,Jw,CQ,CO,Sz,SY,Pz,Jz,CJ,Q8,Pq,TG,Js,Jh,IC,JL,IE,Ju,DZ,CY,E5,Ej,GV,L9,JV,F5,EU,BK,BM,Cf,Ib]at hs ⊢);rw[QV,QV,←List.append_assoc,←List.append_assoc,←List.append_assoc];exact hs)⟩)
 refine q_c 15 0 [0] [[oF],[(an 7 1),o0,(an 7 15)]] [BF ((k:Int)<12),Qb z,Qb z,Qb z,Qb z,Qb z,Qb z,Qb z,Qb n81,Qb n81,Qb n81,Qb n81,Qb n81,Qb n81,Qb n81] [(1,pt z),(BK z),(BM z),(Cf z),(14,pt n81)] ⟨w,n81+1,[(Ak w),(CJ z c),(CQ z),(CO z),(KY z csG aW wsG cW psG rsG qsG spG k aR cR aQ cQ c aD cD aE cE aH cH),(AA z 73 3 Am.cells wsG),(JL z csG spG aD cD),(CY z aW wsG cW),(AA z 54 4 Ar.cells rsG),(AA z 75 2 AC.cells qsG),(Ju z psG k aE cE),(E5 z rsG aR cR),(Ej z qsG aQ cQ),(Jh z k c aH cH),(AA z 73 3 Am.cells spG),(bk n81 (Af.arr c) 26)]⟩ rfl ⟨bf,rfl,rfl,rfl,rfl,rfl,rfl,rfl,rfl,rfl,rfl,rfl,rfl,rfl,rfl,Ae⟩ ?_
 refine PM (base:=z) (e:=57) (sz:=1) (cells:=(fun x:Sl Am=>[Sl.val x])) (a:=aD) (n:=((csG++spG).length)) (cap:=cD) (xs:=(csG++spG)) 6 rfl (fun hcap95 => ?_)
 simp only[List.length_append,Dv]at hcap95
 refine q_c 4 0 [] [[o0,(a1 4),o0,(a1 1),o0,⟨.slc 0 c.Az.xs.length false,none⟩,o0,(a1 15)]] [Qb (z+3),Qb z,(0:Int)=((0:Nat):Int),(c.Az.xs.length:Int)=(c.Az.xs.length:Int),0≤c.Az.xs.length,c.Az.xs.length≤cD,cD=0∨(0:Nat)=0,Qb n81] [(1,pt z),(BK z),(BM z),(Cf z),(14,pt n81)] ⟨w,n81+1,[(Ak w),(CJ z c),(CQ z),(CO z),(KY z csG aW wsG cW psG rsG qsG spG k aR cR aQ cQ c aD cD aE cE aH cH),(AA z 73 3 Am.cells wsG),(JL z csG spG aD cD),(CY z aW wsG cW),(AA z 54 4 Ar.cells rsG),(AA z 75 2 AC.cells qsG),(Ju z psG k aE cE),(E5 z rsG aR cR),(Ej z qsG aQ cQ),(Jh z k c aH cH),(AA z 73 3 Am.cells spG),(bk n81 #[i6 c.Frames,i6 c.Dz,i6 c.Kernel,i6 c.Room,.slice aD (c.Az.xs.length - 0) (cD - 0),.slice c.Aa.a c.Aa.xs.length c.Aa.cap,.slice c.Ac.a c.Ac.xs.length c.Ac.cap] 26)]⟩ rfl ⟨rfl,rfl,rfl,rfl,(by omega),(by omega),.inr rfl,rfl,Ae⟩ ?_
 refine PM (base:=z) (e:=52) (sz:=8) (cells:=Ah.cells) (a:=aE) (n:=((psG++BL Gj k).length)) (cap:=cE) (xs:=(psG++BL Gj k)) 10 rfl (fun hcap96 => ?_)
 simp only[List.length_append,Dv]at hcap96
 refine q_c 4 0 [] [[o0,(a1 4),o0,(a1 1),o0,⟨.slc 0 c.Aa.xs.length false,none⟩,o0,(a1 15)]] [Qb (z+3),Qb z,(0:Int)=((0:Nat):Int),(c.Aa.xs.length:Int)=(c.Aa.xs.length:Int),0≤c.Aa.xs.length,c.Aa.xs.length≤cE,cE=0∨(0:Nat)=0,Qb n81] [(1,pt z),(BK z),(BM z),(Cf z),(14,pt n81)] ⟨w,n81+1,[(Ak w),(CJ z c),(CQ z),(CO z),(KY z csG aW wsG cW psG rsG qsG spG k aR cR aQ cQ c aD cD aE cE aH cH),(AA z 73 3 Am.cells wsG),(JL z csG spG aD cD),(CY z aW wsG cW),(AA z 54 4 Ar.cells rsG),(AA z 75 2 AC.cells qsG),(Ju z psG k aE cE),(E5 z rsG aR cR),(Ej z qsG aQ cQ),(Jh z k c aH cH),(AA z 73 3 Am.cells spG),(bk n81 #[i6 c.Frames,i6 c.Dz,i6 c.Kernel,i6 c.Room,.slice aD (c.Az.xs.length - 0) (cD - 0),.slice aE (c.Aa.xs.length - 0) (cE - 0),.slice c.Ac.a c.Ac.xs.length c.Ac.cap] 26)]⟩ rfl ⟨rfl,rfl,rfl,rfl,(by omega),(by omega),.inr rfl,rfl,Ae⟩ ?_
 refine PM (base:=z) (e:=77) (sz:=3) (cells:=Aw.cells) (a:=aH) (n:=((c.Ac.xs++BL GY k).length)) (cap:=cH) (xs:=(c.Ac.xs++BL GY k)) 13 rfl (fun hcap97 => ?_)
 simp only[List.length_append,Dv]at hcap97
 refine q_c 4 0 [] [[o0,(a1 4),o0,(a1 1),o0,⟨.slc 0 c.Ac.xs.length false,none⟩,o0,(a1 15)]] [Qb (z+3),Qb z,(0:Int)=((0:Nat):Int),(c.Ac.xs.length:Int)=(c.Ac.xs.length:Int),0≤c.Ac.xs.length,c.Ac.xs.length≤cH,cH=0∨(0:Nat)=0,Qb n81] [(BK z),(BM z),(Cf z),(14,pt n81)] ⟨w,n81+1,[(Ak w),(CJ z c),(CQ z),(CO z),(KY z csG aW wsG cW psG rsG qsG spG k aR cR aQ cQ c aD cD aE cE aH cH),(AA z 73 3 Am.cells wsG),(JL z csG spG aD cD),(CY z aW wsG cW),(AA z 54 4 Ar.cells rsG),(AA z 75 2 AC.cells qsG),(Ju z psG k aE cE),(E5 z rsG aR cR),(Ej z qsG aQ cQ),(Jh z k c aH cH),(AA z 73 3 Am.cells spG),(TB n81 c aD cD aE cE aH cH)]⟩ rfl ⟨rfl,rfl,rfl,rfl,(by omega),(by omega),.inr rfl,rfl,Ae⟩ ?_
 refine Fp 3 [0,1,3,4,5,6,7,8,9,10,11,12,13,14,15] [(Ak w),(CJ z c),(CO z),(KY z csG aW wsG cW psG rsG qsG spG k aR cR aQ cQ c aD cD aE cE aH cH),(AA z 73 3 Am.cells wsG),(JL z csG spG aD cD),(CY z aW wsG cW),(AA z 54 4 Ar.cells rsG),(AA z 75 2 AC.cells qsG),(Ju z psG k aE cE),(E5 z rsG aR cR),(Ej z qsG aQ cQ),(Jh z k c aH cH),(AA z 73 3 Am.cells spG),(TB n81 c aD cD aE cE aH cH)] rfl rfl ?_
 refine CU [(0,(an 7 14)),(1,(an 6 3))] [2,3,181,182] [Qb n81,Qb n81,Qb n81,Qb n81,Qb n81,Qb n81,Qb n81,Qb (z+3),Qb (z+3),Qb (z+3),Qb (z+3),Qb (z+3),Qb (z+3)] [true,true,false,false] [(BK z),(BM z),(181,.agg #[i6 c.Frames,i6 c.Dz,i6 c.Kernel,i6 c.Room,.slice aD (c.Az.xs.length - 0) (cD - 0),.slice aE (c.Aa.xs.length - 0) (cE - 0),.slice aH (c.Ac.xs.length - 0) (cH - 0)]),(182,.agg #[.slice aD ((csG++spG).length) cD,.slice aW wsG.length cW,.slice aE ((psG++BL Gj k).length) cE,.slice aR rsG.length cR,.slice aQ qsG.length cQ,.slice aH ((c.Ac.xs++BL GY k).length) cH])] ⟨rfl,rfl,rfl,rfl,rfl,rfl,rfl,rfl,rfl,rfl,rfl,rfl,rfl,Ae⟩ ?_
 refine CX 2 ?_
 refine EJ (an 7 2) [2,3,182] [Qb (z+1),Qb (z+1),Qb (z+1),Qb (z+1),Qb (z+1),Qb (z+1),Qb (z+1)] [(BK z),(BM z),(182,.agg #[.slice aD ((csG++spG).length) cD,.slice aW wsG.length cW,.slice aE ((psG++BL Gj k).length) cE,.slice aR rsG.length cR,.slice aQ qsG.length cQ,.slice aH ((c.Ac.xs++BL GY k).length) cH])] ⟨w,n81+1,[(Ak w),(CJ z c),(VT z c aD cD aE cE aH cH),(CO z),(KY z csG aW wsG cW psG rsG qsG spG k aR cR aQ cQ c aD cD aE cE aH cH),(AA z 73 3 Am.cells wsG),(JL z csG spG aD cD),(CY z aW wsG cW),(AA z 54 4 Ar.cells rsG),(AA z 75 2 AC.cells qsG),(Ju z psG k aE cE),(E5 z rsG aR cR),(Ej z qsG aQ cQ),(Jh z k c aH cH),(AA z 73 3 Am.cells spG),(TB n81 c aD cD aE cE aH cH)]⟩ [0,1,3,4,5,6,7,8,9,10,11,12,13,14,15] ⟨rfl,rfl,rfl,rfl,rfl,rfl,rfl,Ae⟩ (.inr rfl) ?_
 refine CX 3 ?_
 refine EJ (an 6 3) [2,3] [Qb (z+2),Qb (z+2),Qb (z+2),Qb (z+2),Qb (z+2),Qb (z+2)] [(BK z),(BM z)] ⟨w,n81+1,(UT z csG aW wsG cW psG rsG qsG spG n81 k aR cR aQ cQ c aD cD aE cE aH cH w)⟩ [] ⟨rfl,rfl,rfl,rfl,rfl,rfl,Ae⟩ (.inl rfl) ?_
 refine IA 4 [0,1,2,3,4,5,6,7,8,9,10,11,12,13,14,15] (UT z csG aW wsG cW psG rsG qsG spG n81 k aR cR aQ cQ c aD cD aE cE aH cH w) rfl rfl ?_
 refine D9 ?_
 refine Dp [2,3] [(BK z),(BM z)] ?_
 refine UI <| g_ret <| AZ [.at 2,.at 2,.at 2,.at 2,.at 2,.at 2,.at 2,.at 3,.at 3,.at 3,.at 3,.at 3,.at 3] [Qb (z+1),Qb (z+1),Qb (z+1),Qb (z+1),Qb (z+1),Qb (z+1),Qb (z+1),Qb (z+2),Qb (z+2),Qb (z+2),Qb (z+2),Qb (z+2),Qb (z+2)] (.tuple #[.agg #[i6 c.Frames,i6 c.Dz,i6 c.Kernel,i6 c.Room,.slice aD (c.Az.xs.length - 0) (cD - 0),.slice aE (c.Aa.xs.length - 0) (cE - 0),.slice aH (c.Ac.xs.length - 0) (cH - 0)],.agg #[.slice aD ((csG++spG).length) cD,.slice aW wsG.length cW,.slice aE ((psG++BL Gj k).length) cE,.slice aR rsG.length cR,.slice aQ qsG.length cQ,.slice aH ((c.Ac.xs++BL GY k).length) cH]]) ⟨rfl,rfl,rfl,rfl,rfl,rfl,rfl,rfl,rfl,rfl,rfl,rfl,rfl,Ae⟩ ?_
 intro w98 hw98
 have ek:k=12:=by omega
 have ei:i=c.Az.xs.length:=by omega
 have ep:p=c.Aa.xs.length:=by omega
 subst ek
 have hO:∃ w0,Sat ⟨w0,w98.heap.size,Qo z c (⟨aD,cD,csG,spG,aW,cW,wsG,aE,cE,psG,aR,cR,rsG,aQ,cQ,qsG,aH,cH⟩:RM)⟩ w98:=⟨w,by
  have h4:=hw98.pick [13,6,7,5,14,10,11,8,12,9] rfl rfl
  rw[hw98.size]
  (try dsimp only[VT,TB,KY,Kq,Jw,CQ,CO,Jz,CJ,Js,Jh,IC,JL,IE,Ju,DZ,CY,E5,Ej,GV,L9,JV,F5,EU,BK,BM,Cf,Ib,UT]at h4)
  exact h4⟩
 exact⟨(⟨aD,cD,csG,spG,aW,cW,wsG,aE,cE,psG,aR,cR,rsG,aQ,cQ,qsG,aH,cH⟩:RM),by(try dsimp only[VT,TB,KY,Kq,Jw,CQ,CO,Jz,CJ,Js,Jh,IC,JL,IE,Ju,DZ,CY,E5,Ej,GV,L9,JV,F5,EU,BK,BM,Cf,Ib,UT]);simp only[RG,Uc,Af.arr,Ih.arr,Nat.sub_zero,hl1,hl2,hl4,hl5,hl6,wid,List.length_append,Dv,ei,ep,hls],⟨ei ▸ hCo,hSp,ep ▸ hPr⟩,hz ▸ hO,Bg hw98⟩
section
variable (b4 o5:Nat)(la lb:Sl Am)
abbrev QW:Dq:=(0,.slice (some ⟨b4,o5,none⟩) la.xs.length la.cap)
abbrev MM:=(12,Ad la.xs.length)
abbrev Pj:Dq:=(0,.slice la.a la.xs.length la.cap)
abbrev Oq:Dq:=(1,.slice lb.a lb.xs.length lb.cap)
end
theorem samew_yes(w:World)(la lb:Sl Am)(ha:F8 Am.cells 3 Am.ok Any w la)(hb:F8 Am.cells 3 Am.ok Any w lb)(hx:la.xs=lb.xs):Calls Try.prog 38 #[.slice la.a la.xs.length la.cap,.slice lb.a lb.xs.length lb.cap] w fun e w'=>e = .returned (.bool true)∧BN (fun _=>False) w w':=by
 obtain⟨z,hz⟩:∃ z,z=w.heap.size:=⟨_,rfl⟩
 refine BV (args:=[.slice la.a la.xs.length la.cap,.slice lb.a lb.xs.length lb.cap]) 26 ⟨w,z,[(Ak w)]⟩ Try.func38 rfl (by kernel_rfl) (by kernel_rfl) (Fv hz) ?_
 have hll:la.xs.length=lb.xs.length:=by rw[hx]
 have hbd:=ha.1.len
 refine Eb [0,1] [(Pj la),(Oq lb)] ?_
 refine A8 18 0 [0] [[o0],[o0,o0,o0,o0,oF],[o0,o0,o0]] [NF (la.xs.length:Int) (lb.xs.length:Int)] [(Pj la),(Oq lb),(MM la),(13,i6 0)] rfl ⟨nf,Ae⟩ ?_
 refine Ce (fun m a w'=>∃ (n2:Nat) (i:Nat),m=la.xs.length - i∧z≤n2∧(i≤la.xs.length)∧St 26 [(Pj la),(Oq lb),(MM la),(13,Ad i)] [] ⟨w,n2,[(Ak w)]⟩ a w') (la.xs.length - 0) ?_ ?_
 ·intro a w' hs;exact⟨z,0,rfl,Nat.le_refl _,Nat.zero_le _,hs⟩
 rintro m a w' ⟨n2,i,rfl,hn1,hki,hs⟩
 refine(?_:G Try.prog 26 [(Pj la),(Oq lb),(MM la),(13,Ad i)] [] ⟨w,n2,[(Ak w)]⟩ _ _ _) a w' hs
 clear hs a w'
 refine CP ?_
 by_cases h3:(i:Int)<(la.xs.length:Int)
 ·refine A8 14 0 [1] [[oT],[o0,o0]] [BT ((i:Int)<(la.xs.length:Int))] [(Pj la),(Oq lb),(MM la),(13,Ad i),(5,Ad i)] rfl ⟨bt,Ae⟩ ?_
  obtain⟨b4,o5,ha6,hF8,hc7⟩:=(ha).1.all (show 0<la.xs.length by omega)
  replace ha6:la.a=some ⟨b4,o5,none⟩:=ha6
  refine IZ [(QW b4 o5 la),(Oq lb),(MM la),(13,Ad i),(5,Ad i)] (by(try dsimp only[QW,MM,Pj,Oq]);simp only[ha6]) ?_
  have hc9:=hc7 i (show i<la.xs.length by omega)
  have he10:=(ha).2 i (show i<la.xs.length by omega)
  obtain⟨y11,hy11⟩:∃ y_,y_=gd la.xs i:=⟨_,rfl⟩
  rw[←hy11]at he10 hc9
  obtain⟨b12,o13,ha14,hF16,hc15⟩:=(hb).1.all (show 0<lb.xs.length by omega)
  replace ha14:lb.a=some ⟨b12,o13,none⟩:=ha14
  refine IZ [(QW b4 o5 la),(1,.slice (some ⟨b12,o13,none⟩) lb.xs.length lb.cap),(MM la),(13,Ad i),(5,Ad i)] (by(try dsimp only[QW,MM,Pj,Oq]);simp only[ha14]) ?_
  have hc17:=hc15 i (show i<lb.xs.length by omega)
  have he18:=(hb).2 i (show i<lb.xs.length by omega)
  obtain⟨y19,hy19⟩:∃ y_,y_=gd lb.xs i:=⟨_,rfl⟩
  rw[←hy19]at he18 hc17
  have hpey19:y11=y19:=by rw[hy11,hy19,hx]
  refine Fp 9 [0] [(Ak w)] rfl rfl ?_
  refine CU [(0,o0),(1,o0),(2,(oi i)),(3,(ol 0 (Am.arr y11))),(4,o0),(5,o0),(6,(oi i)),(7,(ol 0 (Am.arr y19))),(8,⟨.seq true,none⟩)] [0,1,12,13,24] [BI i,i<la.xs.length,Bq,Eh w b4 (o5+i*3) (Am.arr y11),BI i,i<lb.xs.length,Bq,Eh w b12 (o13+i*3) (Am.arr y19),((y11.Partition:Int)==(y19.Partition:Int)&&((y11.LJ:Int)==(y19.LJ:Int)&&((y11.NK:Int)==(y19.NK:Int)&&true)))=true] (Ed 9 0) [(QW b4 o5 la),(1,.slice (some ⟨b12,o13,none⟩) lb.xs.length lb.cap),(MM la),(13,Ad i),(24,.bool false)] ⟨rfl,(by omega),rfl,CB hc9,rfl,(by omega),rfl,CB hc17,(by rw[hpey19];simp),Ae⟩ ?_
  refine D9 ?_
  refine Ja 7 0 [0] [[(ov (i6 ((i+1:Nat):Int))),o0]] [Wr ((i:Int)+1) (((i+1:Nat):Int))] [(QW b4 o5 la),(1,.slice (some ⟨b12,o13,none⟩) lb.xs.length lb.cap),(MM la),(13,i6 ((i+1:Nat):Int))] rfl ⟨Be,Ae⟩ ?_
  refine EP [0,1,12,13] [(Pj la),(Oq lb),(MM la),(13,i6 ((i+1:Nat):Int))] (by(try dsimp only[QW,MM,Pj,Oq]);simp only[ha6,ha14];rfl) ?_
  refine Bz (fun a w' hs=>⟨la.xs.length - (i+1),by omega,n2,(i+1),rfl,by omega,by omega,hs⟩)
 refine A8 15 0 [0] [[oF],[o0]] [BF ((i:Int)<(la.xs.length:Int))] [(4,.bool true)] rfl ⟨bf,Ae⟩ ?_
 refine AZ [] [] (.bool true) Ae ?_
 intro w20 hw20
 exact⟨rfl,Bg hw20⟩
section
variable (z:Nat)(q p:Ah)
abbrev QP:=bk (z+1) (Ah.arr q) 52
abbrev Ry:=bk z (Ah.arr p) 52
abbrev SA:=(70,Ad p.Ag.xs.length)
abbrev Tz:=(88,Ad p.Ai.xs.length)
abbrev MK:=(3,pt (z+1))
end
theorem Xz(w:World)(p q:Ah)(hp:Ah.ok Any w p)(hq:Ah.ok Any w q)(hx:Ii p=Ii q):Calls Try.prog 28 #[.agg (Ah.arr p),.agg (Ah.arr q)] w fun e w'=>e = .returned (.bool true)∧BN (fun _=>False) w w':=by
 obtain⟨z,hz⟩:∃ z,z=w.heap.size:=⟨_,rfl⟩
 refine BV (args:=[.agg (Ah.arr p),.agg (Ah.arr q)]) 104 ⟨w,z,[(Ak w)]⟩ Try.func28 rfl (by kernel_rfl) (by kernel_rfl) (Fv hz) ?_
 obtain⟨hN,h1,h2,h3,h4,h5,hR,hO⟩:=Qr hx;have hl1:p.Ag.xs.length=q.Ag.xs.length:=by rw[hR]
 have hl2:p.Ai.xs.length=q.Ai.xs.length:=by rw[hO]
 have hb1:=hp.Ag.1.len;have hb2:=hp.Ai.1.len
 refine Eb [0,1] [(0,.agg (Ah.arr p)),(1,.agg (Ah.arr q))] ?_
 refine q_c 22 0 [0] [[o0,o0,o0],[o0,(a1 1),o0,(a1 2),oT,o0,o0,(a1 1),o0,(a1 2),oT,o0,o0,o0,(a1 1),o0,(a1 2),oT,o0,o0,o0,(a1 1),o0,(a1 2),oT,o0,o0,o0,(a1 1),o0,(a1 2),oT,o0,o0],[o0,(a1 1),o0,(a1 2),(ov (.bool false)),o0,o0,o0,o0,o0,o0,(a1 1),o0,o0,(a1 2),o0,oF,o0,o0,o0,(a1 1),o0,o0,(a1 2),o0,oF,o0],[o0,(a1 1),o0,o0]] [Qb z,Qb (z+1),ET p.Entry q.Entry,Qb z,Qb (z+1),ET p.Ef q.Ef,Qb z,Qb (z+1),ET p.Dl q.Dl,Qb z,Qb (z+1),ET p.Eg q.Eg,Qb z,Qb (z+1),ET p.DD q.DD,Qb z,Qb (z+1),Value.bool (!(p.Name.toList==q.Name.toList))=Value.bool false,Qb z,Qb (z+1),NF (p.Ag.xs.length:Int) (q.Ag.xs.length:Int),Qb z,Qb (z+1),NF (p.Ai.xs.length:Int) (q.Ai.xs.length:Int),Qb z] [(2,pt z),(MK z),(SA p),(71,i6 0)] ⟨w,z+2,[(Ak w),(Ry z p),(QP z q)]⟩ rfl ⟨rfl,rfl,et,rfl,rfl,et,rfl,rfl,et,rfl,rfl,et,rfl,rfl,et,rfl,rfl,congrArg (fun t=>Value.bool (!t)) (beq_iff_eq.2 (congrArg ByteArray.toList hN)),rfl,rfl,nf,rfl,rfl,nf,rfl,Ae⟩ ?_
 refine Ce (fun m a w'=>∃ (n2:Nat) (i:Nat),m=p.Ag.xs.length - i∧z+2≤n2∧(i≤p.Ag.xs.length)∧St 104 [(2,pt z),(MK z),(SA p),(71,Ad i)] [] ⟨w,n2,[(Ak w),(Ry z p),(QP z q)]⟩ a w') (p.Ag.xs.length - 0) ?_ ?_
 ·intro a w' hs;exact⟨(z+2),0,rfl,Nat.le_refl _,Nat.zero_le _,hs⟩
 rintro m a w' ⟨n2,i,rfl,hn1,hki,hs⟩
 refine(?_:G Try.prog 104 [(2,pt z),(MK z),(SA p),(71,Ad i)] [] ⟨w,n2,[(Ak w),(Ry z p),(QP z q)]⟩ _ _ _) a w' hs
 clear hs a w'
 refine CP ?_
 by_cases h3:(i:Int)<(p.Ag.xs.length:Int)
 ·refine A8 14 0 [1] [[oT],[o0,o0]] [BT ((i:Int)<(p.Ag.xs.length:Int))] [(2,pt z),(MK z),(SA p),(71,Ad i),(6,Ad i)] rfl ⟨bt,Ae⟩ ?_
  obtain⟨b4,o5,ha6,hF8,hc7⟩:=(hp.Ag).1.all (show 0<p.Ag.xs.length by omega)
  replace ha6:p.Ag.a=some ⟨b4,o5,none⟩:=ha6
  have hc9:=hc7 i (show i<p.Ag.xs.length by omega)
  have he10:=(hp.Ag).2 i (show i<p.Ag.xs.length by omega)
  obtain⟨y11,hy11⟩:∃ y_,y_=gd p.Ag.xs i:=⟨_,rfl⟩
  rw[←hy11]at he10 hc9
  obtain⟨b12,o13,ha14,hF16,hc15⟩:=(hq.Ag).1.all (show 0<q.Ag.xs.length by omega)
  replace ha14:q.Ag.a=some ⟨b12,o13,none⟩:=ha14
  have hc17:=hc15 i (show i<q.Ag.xs.length by omega)
  have he18:=(hq.Ag).2 i (show i<q.Ag.xs.length by omega)
  obtain⟨y19,hy19⟩:∃ y_,y_=gd q.Ag.xs i:=⟨_,rfl⟩
  rw[←hy19]at he18 hc17
  have hpey19:y11=y19:=by rw[hy11,hy19,hR]
  refine Fp 11 [0,1,2] [(Ak w),(Ry z p),(QP z q)] rfl rfl ?_
  refine CU [(0,o0),(1,(Du 1 b4 o5 p.Ag)),(2,o0),(3,(oi i)),(4,(ol 0 (Ar.arr y11))),(5,o0),(6,(Du 2 b12 o13 q.Ag)),(7,o0),(8,(oi i)),(9,(ol 0 (Ar.arr y19))),(10,⟨.seq true,none⟩)] [2,3,70,71,84] [Qb z,Df b4 o5 p.Ag,BI i,i<p.Ag.xs.length,Bq,Eh w b4 (o5+i*4) (Ar.arr y11),Qb (z+1),Df b12 o13 q.Ag,BI i,i<q.Ag.xs.length,Bq,Eh w b12 (o13+i*4) (Ar.arr y19),((y11.Ci:Int)==(y19.Ci:Int)&&((y11.CE:Int)==(y19.CE:Int)&&((y11.Frame:Int)==(y19.Frame:Int)&&((y11.Lp:Int)==(y19.Lp:Int)&&true))))=true] (Ed 11 0) [(2,pt z),(MK z),(SA p),(71,Ad i),(84,.bool false)] ⟨rfl,Dh ha6,rfl,(by omega),rfl,CB hc9,rfl,Dh ha14,rfl,(by omega),rfl,CB hc17,(by rw[hpey19];simp),Ae⟩ ?_
  refine D9 ?_
  refine Ja 7 0 [0] [[(ov (i6 ((i+1:Nat):Int))),o0]] [Wr ((i:Int)+1) (((i+1:Nat):Int))] [(2,pt z),(MK z),(SA p),(71,i6 ((i+1:Nat):Int))] rfl ⟨Be,Ae⟩ ?_
  refine Bz (fun a w' hs=>⟨p.Ag.xs.length - (i+1),by omega,n2,(i+1),rfl,by omega,by omega,hs⟩)
 refine A8 16 0 [0] [[oF],[o0,(a1 1),o0,o0]] [BF ((i:Int)<(p.Ag.xs.length:Int)),Qb z] [(2,pt z),(MK z),(Tz p),(89,i6 0)] rfl ⟨bf,rfl,Ae⟩ ?_
 refine Ce (fun m a w'=>∃ (n21:Nat) (k:Nat),m=p.Ai.xs.length - k∧n2≤n21∧(k≤p.Ai.xs.length)∧St 104 [(2,pt z),(MK z),(Tz p),(89,Ad k)] [] ⟨w,n21,[(Ak w),(Ry z p),(QP z q)]⟩ a w') (p.Ai.xs.length - 0) ?_ ?_
 ·intro a w' hs;exact⟨n2,0,rfl,Nat.le_refl _,Nat.zero_le _,hs⟩
 rintro m a w' ⟨n21,k,rfl,hn20,hkk,hs⟩
 refine(?_:G Try.prog 104 [(2,pt z),(MK z),(Tz p),(89,Ad k)] [] ⟨w,n21,[(Ak w),(Ry z p),(QP z q)]⟩ _ _ _) a w' hs
 clear hs a w'
 refine CP ?_
 by_cases h22:(k:Int)<(p.Ai.xs.length:Int)
 ·refine A8 14 0 [1] [[oT],[o0,o0]] [BT ((k:Int)<(p.Ai.xs.length:Int))] [(2,pt z),(MK z),(Tz p),(89,Ad k),(7,Ad k)] rfl ⟨bt,Ae⟩ ?_
  obtain⟨b23,o24,ha25,hF27,hc26⟩:=(hp.Ai).1.all (show 0<p.Ai.xs.length by omega)
  replace ha25:p.Ai.a=some ⟨b23,o24,none⟩:=ha25
  have hc28:=hc26 k (show k<p.Ai.xs.length by omega)
  have he29:=(hp.Ai).2 k (show k<p.Ai.xs.length by omega)
  obtain⟨y30,hy30⟩:∃ y_,y_=gd p.Ai.xs k:=⟨_,rfl⟩
  rw[←hy30]at he29 hc28
  obtain⟨b31,o32,ha33,hF35,hc34⟩:=(hq.Ai).1.all (show 0<q.Ai.xs.length by omega)
  replace ha33:q.Ai.a=some ⟨b31,o32,none⟩:=ha33
  have hc36:=hc34 k (show k<q.Ai.xs.length by omega)
  have he37:=(hq.Ai).2 k (show k<q.Ai.xs.length by omega)
  obtain⟨y38,hy38⟩:∃ y_,y_=gd q.Ai.xs k:=⟨_,rfl⟩
  rw[←hy38]at he37 hc36
  have hpey38:y30=y38:=by rw[hy30,hy38,hO]
  refine Fp 11 [0,1,2] [(Ak w),(Ry z p),(QP z q)] rfl rfl ?_
  refine CU [(0,o0),(1,(Du 1 b23 o24 p.Ai)),(2,o0),(3,(oi k)),(4,(ol 0 (AC.arr y30))),(5,o0),(6,(Du 2 b31 o32 q.Ai)),(7,o0),(8,(oi k)),(9,(ol 0 (AC.arr y38))),(10,⟨.seq true,none⟩)] [2,3,88,89,102] [Qb z,Df b23 o24 p.Ai,BI k,k<p.Ai.xs.length,Bq,Eh w b23 (o24+k*2) (AC.arr y30),Qb (z+1),Df b31 o32 q.Ai,BI k,k<q.Ai.xs.length,Bq,Eh w b31 (o32+k*2) (AC.arr y38),((y30.Channel:Int)==(y38.Channel:Int)&&(y30.Source==y38.Source&&true))=true] (Ed 11 0) [(2,pt z),(MK z),(Tz p),(89,Ad k),(102,.bool false)] ⟨rfl,Dh ha25,rfl,(by omega),rfl,CB hc28,rfl,Dh ha33,rfl,(by omega),rfl,CB hc36,(by rw[hpey38];simp),Ae⟩ ?_
  refine D9 ?_
  refine Ja 7 0 [0] [[(ov (i6 ((k+1:Nat):Int))),o0]] [Wr ((k:Int)+1) (((k+1:Nat):Int))] [(2,pt z),(MK z),(Tz p),(89,i6 ((k+1:Nat):Int))] rfl ⟨Be,Ae⟩ ?_
  refine Bz (fun a w' hs=>⟨p.Ai.xs.length - (k+1),by omega,n21,(k+1),rfl,by omega,by omega,hs⟩)
 refine A8 15 0 [0] [[oF],[o0]] [BF ((k:Int)<(p.Ai.xs.length:Int))] [(4,.bool true)] rfl ⟨bf,Ae⟩ ?_
 refine AZ [] [] (.bool true) Ae ?_
 intro w39 hw39
 exact⟨rfl,Bg hw39⟩
section
variable (z:Nat)(d c:Af)
abbrev Oa:=bk (z+1) (Af.arr d) 26
abbrev Oj:=bk z (Af.arr c) 26
abbrev Qc:=(80,Ad c.Aa.xs.length)
abbrev SK:=(99,Ad c.Ac.xs.length)
abbrev PU:=(61,Ad c.Az.xs.length)
abbrev Ij:=(3,pt (z+1))
end
theorem same_yes(w:World)(c d:Af)(hc:Af.ok Any w c)(hd:Af.ok Any w d)(hx:strip c=strip d):Calls Try.prog 26 #[.agg (Af.arr c),.agg (Af.arr d)] w fun e w'=>e = .returned (.bool true)∧BN (fun _=>False) w w':=by
 obtain⟨z,hz⟩:∃ z,z=w.heap.size:=⟨_,rfl⟩
 refine BV (args:=[.agg (Af.arr c),.agg (Af.arr d)]) 115 ⟨w,z,[(Ak w)]⟩ Try.func26 rfl (by kernel_rfl) (by kernel_rfl) (Fv hz) ?_
 obtain⟨h1,h2,h3,h4⟩:=ZW hx;obtain⟨hl1,hl2,hH,hC,hP⟩:=Uh hx;have hl3:c.Ac.xs.length=d.Ac.xs.length:=by rw[hH]
 have hb1:=hc.Az.1.len;have hb2:=hc.Aa.1.len;have hb3:=hc.Ac.1.len
 refine Eb [0,1] [(0,.agg (Af.arr c)),(1,.agg (Af.arr d))] ?_
 refine q_c 26 0 [0,0] [[o0,o0,o0],[o0,(a1 1),o0,(a1 2),oF,o0,o0,(a1 1),o0,(a1 2),oF,o0,o0,o0,(a1 1),o0,(a1 2),oF,o0,o0,o0,(a1 1),o0,(a1 2),oF,o0],[o0,(a1 1),o0,o0,(a1 2),o0,oF,o0,o0,(a1 1),o0,o0,(a1 2),o0,oF,o0,o0,o0,(a1 1),o0,o0,(a1 2),o0,oF,o0],[o0,(a1 1),o0,o0]] [Qb z,Qb (z+1),NF c.Frames d.Frames,Qb z,Qb (z+1),NF c.Dz d.Dz,Qb z,Qb (z+1),NF c.Kernel d.Kernel,Qb z,Qb (z+1),NF c.Room d.Room,Qb z,Qb (z+1),NF (c.Az.xs.length:Int) (d.Az.xs.length:Int),Qb z,Qb (z+1),NF (c.Aa.xs.length:Int) (d.Aa.xs.length:Int),Qb z,Qb (z+1),NF (c.Ac.xs.length:Int) (d.Ac.xs.length:Int),Qb z] [(2,pt z),(Ij z),(PU c),(62,i6 0)] ⟨w,z+2,[(Ak w),(Oj z c),(Oa z d)]⟩ rfl ⟨rfl,rfl,nf,rfl,rfl,nf,rfl,rfl,nf,rfl,rfl,nf,rfl,rfl,nf,rfl,rfl,nf,rfl,rfl,nf,rfl,Ae⟩ ?_
 refine Ce (fun m a w'=>∃ (n2:Nat) (i:Nat),m=c.Az.xs.length - i∧z+2≤n2∧(i≤c.Az.xs.length)∧St 115 [(2,pt z),(Ij z),(PU c),(62,Ad i)] [] ⟨w,n2,[(Ak w),(Oj z c),(Oa z d)]⟩ a w') (c.Az.xs.length - 0) ?_ ?_
 ·intro a w' hs;exact⟨(z+2),0,rfl,Nat.le_refl _,Nat.zero_le _,hs⟩
 rintro m a w' ⟨n2,i,rfl,hn1,hki,hs⟩
 refine(?_:G Try.prog 115 [(2,pt z),(Ij z),(PU c),(62,Ad i)] [] ⟨w,n2,[(Ak w),(Oj z c),(Oa z d)]⟩ _ _ _) a w' hs
 clear hs a w'
 refine CP ?_
 by_cases h3:(i:Int)<(c.Az.xs.length:Int)
 ·refine A8 14 0 [1] [[oT],[o0,o0]] [BT ((i:Int)<(c.Az.xs.length:Int))] [(2,pt z),(Ij z),(PU c),(62,Ad i),(5,Ad i)] rfl ⟨bt,Ae⟩ ?_
  obtain⟨b4,o5,ha6,hF8,hc7⟩:=(hc.Az).1.all (show 0<c.Az.xs.length by omega)
  replace ha6:c.Az.a=some ⟨b4,o5,none⟩:=ha6
  have hc9:=hc7 i (show i<c.Az.xs.length by omega)
  have he10:=(hc.Az).2 i (show i<c.Az.xs.length by omega)
  obtain⟨y11,hy11⟩:∃ y_,y_=gd c.Az.xs i:=⟨_,rfl⟩
  rw[←hy11]at he10 hc9
  obtain⟨b12,o13,ha14,hF16,hc15⟩:=(hd.Az).1.all (show 0<d.Az.xs.length by omega)
  replace ha14:d.Az.a=some ⟨b12,o13,none⟩:=ha14
  have hc17:=hc15 i (show i<d.Az.xs.length by omega)
  have he18:=(hd.Az).2 i (show i<d.Az.xs.length by omega)
  obtain⟨y19,hy19⟩:∃ y_,y_=gd d.Az.xs i:=⟨_,rfl⟩
  rw[←hy19]at he18 hc17
  have hpey19:=(by have h0:=hC i;rw[←hy11,←hy19]at h0;exact h0:y11.xs=y19.xs)
  refine Fp 12 [0,1,2] [(Ak w),(Oj z c),(Oa z d)] rfl rfl ?_
  refine CU [(0,o0),(1,(Du 1 b4 o5 c.Az)),(2,o0),(3,(oi i)),(4,(oa [.via 0 (.slice y11.a y11.xs.length y11.cap)])),(5,o0),(6,(Du 2 b12 o13 d.Az)),(7,o0),(8,(oi i)),(9,(oa [.via 0 (.slice y19.a y19.xs.length y19.cap)]))] [2,3,61,62,69,74] [Qb z,Df b4 o5 c.Az,BI i,i<c.Az.xs.length,Bq,Old w b4 (o5+i) (.slice y11.a y11.xs.length y11.cap),Qb (z+1),Df b12 o13 d.Az,BI i,i<d.Az.xs.length,Bq,Old w b12 (o13+i) (.slice y19.a y19.xs.length y19.cap)] (Ed 10 2) [(2,pt z),(Ij z),(PU c),(62,Ad i),(69,.slice y11.a y11.xs.length y11.cap),(74,.slice y19.a y19.xs.length y19.cap)] ⟨rfl,Dh ha6,rfl,(by omega),rfl,BA (hc9 0 _ rfl),rfl,Dh ha14,rfl,(by omega),rfl,BA (hc17 0 _ rfl),Ae⟩ ?_
  refine CX 10 ?_
  refine FZ [] [] 38 #[.slice y11.a y11.xs.length y11.cap,.slice y19.a y19.xs.length y19.cap] (some 75) (by as_aux_lemma=>kernel_rfl) rfl rfl Ae ?_
  intro w20 hw20
  refine(samew_yes w20 y11 y19 (Fa (hw20.ext rfl) (fun _ h=>h) he10 (fun _ h=>Am.ok.ext (hw20.ext rfl) (fun _ h=>h) h)) (Fa (hw20.ext rfl) (fun _ h=>h) he18 (fun _ h=>Am.ok.ext (hw20.ext rfl) (fun _ h=>h) h)) hpey19).mono ?_
  rintro e w21 ⟨rfl,hkw21⟩
  have hnw21:n2≤w21.heap.size:=Dx hw20 hkw21
  have hs22:=hw20.keeps hkw21
  refine⟨_,_,rfl,hs22,.inr (fun c hc=>hs22.all c (by first | exact hc | exact Dt (is:=[0,1,2]) rfl c hc)), ?_⟩
  refine DV [2,3,61,62,75] [(2,pt z),(Ij z),(PU c),(62,Ad i),(75,.bool true)] ?_
  refine CU [(11,o0)] [2,3,61,62,76] [] (Ed 12 0) [(2,pt z),(Ij z),(PU c),(62,Ad i),(76,.bool false)] Ae ?_
  refine D9 ?_
  refine Ja 7 0 [0] [[(ov (i6 ((i+1:Nat):Int))),o0]] [Wr ((i:Int)+1) (((i+1:Nat):Int))] [(2,pt z),(Ij z),(PU c),(62,i6 ((i+1:Nat):Int))] rfl ⟨Be,Ae⟩ ?_
  refine Bz (fun a w' hs=>⟨c.Az.xs.length - (i+1),by omega,w21.heap.size,(i+1),rfl,by omega,by omega,hs⟩)
 refine A8 16 0 [0] [[oF],[o0,(a1 1),o0,o0]] [BF ((i:Int)<(c.Az.xs.length:Int)),Qb z] [(2,pt z),(Ij z),(Qc c),(81,i6 0)] rfl ⟨bf,rfl,Ae⟩ ?_
 refine Ce (fun m a w'=>∃ (n24:Nat) (k:Nat),m=c.Aa.xs.length - k∧n2≤n24∧(k≤c.Aa.xs.length)∧St 115 [(2,pt z),(Ij z),(Qc c),(81,Ad k)] [] ⟨w,n24,[(Ak w),(Oj z c),(Oa z d)]⟩ a w') (c.Aa.xs.length - 0) ?_ ?_
 ·intro a w' hs;exact⟨n2,0,rfl,Nat.le_refl _,Nat.zero_le _,hs⟩
 rintro m a w' ⟨n24,k,rfl,hn23,hkk,hs⟩
 refine(?_:G Try.prog 115 [(2,pt z),(Ij z),(Qc c),(81,Ad k)] [] ⟨w,n24,[(Ak w),(Oj z c),(Oa z d)]⟩ _ _ _) a w' hs
 clear hs a w'
 refine CP ?_
 by_cases h25:(k:Int)<(c.Aa.xs.length:Int)
 ·refine A8 14 0 [1] [[oT],[o0,o0]] [BT ((k:Int)<(c.Aa.xs.length:Int))] [(2,pt z),(Ij z),(Qc c),(81,Ad k),(6,Ad k)] rfl ⟨bt,Ae⟩ ?_
  obtain⟨b26,o27,ha28,hF30,hc29⟩:=(hc.Aa).1.all (show 0<c.Aa.xs.length by omega)
  replace ha28:c.Aa.a=some ⟨b26,o27,none⟩:=ha28
  have hc31:=hc29 k (show k<c.Aa.xs.length by omega)
  have he32:=(hc.Aa).2 k (show k<c.Aa.xs.length by omega)
  obtain⟨y33,hy33⟩:∃ y_,y_=gd c.Aa.xs k:=⟨_,rfl⟩
  rw[←hy33]at he32 hc31
  obtain⟨b34,o35,ha36,hF38,hc37⟩:=(hd.Aa).1.all (show 0<d.Aa.xs.length by omega)
  replace ha36:d.Aa.a=some ⟨b34,o35,none⟩:=ha36
  have hc39:=hc37 k (show k<d.Aa.xs.length by omega)
  have he40:=(hd.Aa).2 k (show k<d.Aa.xs.length by omega)
  obtain⟨y41,hy41⟩:∃ y_,y_=gd d.Aa.xs k:=⟨_,rfl⟩
  rw[←hy41]at he40 hc39
  have hpey41:=(by have h0:=hP k;rw[←hy33,←hy41]at h0;exact h0:Ii y33=Ii y41)
  refine Fp 12 [0,1,2] [(Ak w),(Oj z c),(Oa z d)] rfl rfl ?_
  refine CU [(0,o0),(1,(Du 1 b26 o27 c.Aa)),(2,o0),(3,(oi k)),(4,(ol 0 (Ah.arr y33))),(5,o0),(6,(Du 2 b34 o35 d.Aa)),(7,o0),(8,(oi k)),(9,(ol 0 (Ah.arr y41)))] [2,3,80,81,88,93] [Qb z,Df b26 o27 c.Aa,BI k,k<c.Aa.xs.length,Bq,Eh w b26 (o27+k*8) (Ah.arr y33),Qb (z+1),Df b34 o35 d.Aa,BI k,k<d.Aa.xs.length,Bq,Eh w b34 (o35+k*8) (Ah.arr y41)] (Ed 10 2) [(2,pt z),(Ij z),(Qc c),(81,Ad k),(88,.agg (Ah.arr y33)),(93,.agg (Ah.arr y41))] ⟨rfl,Dh ha28,rfl,(by omega),rfl,CB hc31,rfl,Dh ha36,rfl,(by omega),rfl,CB hc39,Ae⟩ ?_
  refine CX 10 ?_
  refine FZ [] [] 28 #[.agg (Ah.arr y33),.agg (Ah.arr y41)] (some 94) (by as_aux_lemma=>kernel_rfl) rfl rfl Ae ?_
  intro w42 hw42
  refine(Xz w42 y33 y41 (he32.ext (hw42.ext rfl) (fun _ h=>h)) (he40.ext (hw42.ext rfl) (fun _ h=>h)) hpey41).mono ?_
  rintro e w43 ⟨rfl,hkw43⟩
  have hnw43:n24≤w43.heap.size:=Dx hw42 hkw43
  have hs44:=hw42.keeps hkw43
  refine⟨_,_,rfl,hs44,.inr (fun c hc=>hs44.all c (by first | exact hc | exact Dt (is:=[0,1,2]) rfl c hc)), ?_⟩
  refine DV [2,3,80,81,94] [(2,pt z),(Ij z),(Qc c),(81,Ad k),(94,.bool true)] ?_
  refine CU [(11,o0)] [2,3,80,81,95] [] (Ed 12 0) [(2,pt z),(Ij z),(Qc c),(81,Ad k),(95,.bool false)] Ae ?_
  refine D9 ?_
  refine Ja 7 0 [0] [[(ov (i6 ((k+1:Nat):Int))),o0]] [Wr ((k:Int)+1) (((k+1:Nat):Int))] [(2,pt z),(Ij z),(Qc c),(81,i6 ((k+1:Nat):Int))] rfl ⟨Be,Ae⟩ ?_
  refine Bz (fun a w' hs=>⟨c.Aa.xs.length - (k+1),by omega,w43.heap.size,(k+1),rfl,by omega,by omega,hs⟩)
 refine A8 16 0 [0] [[oF],[o0,(a1 1),o0,o0]] [BF ((k:Int)<(c.Aa.xs.length:Int)),Qb z] [(2,pt z),(Ij z),(SK c),(100,i6 0)] rfl ⟨bf,rfl,Ae⟩ ?_
 refine Ce (fun m a w'=>∃ (n46:Nat) (j:Nat),m=c.Ac.xs.length - j∧n24≤n46∧(j≤c.Ac.xs.length)∧St 115 [(2,pt z),(Ij z),(SK c),(100,Ad j)] [] ⟨w,n46,[(Ak w),(Oj z c),(Oa z d)]⟩ a w') (c.Ac.xs.length - 0) ?_ ?_
 ·intro a w' hs;exact⟨n24,0,rfl,Nat.le_refl _,Nat.zero_le _,hs⟩
 rintro m a w' ⟨n46,j,rfl,hn45,hkj,hs⟩
 refine(?_:G Try.prog 115 [(2,pt z),(Ij z),(SK c),(100,Ad j)] [] ⟨w,n46,[(Ak w),(Oj z c),(Oa z d)]⟩ _ _ _) a w' hs
 clear hs a w'
 refine CP ?_
 by_cases h47:(j:Int)<(c.Ac.xs.length:Int)
 ·refine A8 14 0 [1] [[oT],[o0,o0]] [BT ((j:Int)<(c.Ac.xs.length:Int))] [(2,pt z),(Ij z),(SK c),(100,Ad j),(7,Ad j)] rfl ⟨bt,Ae⟩ ?_
  obtain⟨b48,o49,ha50,hF52,hc51⟩:=(hc.Ac).1.all (show 0<c.Ac.xs.length by omega)
  replace ha50:c.Ac.a=some ⟨b48,o49,none⟩:=ha50
  have hc53:=hc51 j (show j<c.Ac.xs.length by omega)
  have he54:=(hc.Ac).2 j (show j<c.Ac.xs.length by omega)
  obtain⟨y55,hy55⟩:∃ y_,y_=gd c.Ac.xs j:=⟨_,rfl⟩
  rw[←hy55]at he54 hc53
  obtain⟨b56,o57,ha58,hF60,hc59⟩:=(hd.Ac).1.all (show 0<d.Ac.xs.length by omega)
  replace ha58:d.Ac.a=some ⟨b56,o57,none⟩:=ha58
  have hc61:=hc59 j (show j<d.Ac.xs.length by omega)
  have he62:=(hd.Ac).2 j (show j<d.Ac.xs.length by omega)
  obtain⟨y63,hy63⟩:∃ y_,y_=gd d.Ac.xs j:=⟨_,rfl⟩
  rw[←hy63]at he62 hc61
  have hpey63:y55=y63:=by rw[hy55,hy63,hH]
  refine Fp 11 [0,1,2] [(Ak w),(Oj z c),(Oa z d)] rfl rfl ?_
  refine CU [(0,o0),(1,(Du 1 b48 o49 c.Ac)),(2,o0),(3,(oi j)),(4,(ol 0 (Aw.arr y55))),(5,o0),(6,(Du 2 b56 o57 d.Ac)),(7,o0),(8,(oi j)),(9,(ol 0 (Aw.arr y63))),(10,⟨.seq true,none⟩)] [2,3,99,100,113] [Qb z,Df b48 o49 c.Ac,BI j,j<c.Ac.xs.length,Bq,Eh w b48 (o49+j*3) (Aw.arr y55),Qb (z+1),Df b56 o57 d.Ac,BI j,j<d.Ac.xs.length,Bq,Eh w b56 (o57+j*3) (Aw.arr y63),((y55.Kind:Int)==(y63.Kind:Int)&&((y55.Words:Int)==(y63.Words:Int)&&((y55.CS:Int)==(y63.CS:Int)&&true)))=true] (Ed 11 0) [(2,pt z),(Ij z),(SK c),(100,Ad j),(113,.bool false)] ⟨rfl,Dh ha50,rfl,(by omega),rfl,CB hc53,rfl,Dh ha58,rfl,(by omega),rfl,CB hc61,(by rw[hpey63];simp),Ae⟩ ?_
  refine D9 ?_
  refine Ja 7 0 [0] [[(ov (i6 ((j+1:Nat):Int))),o0]] [Wr ((j:Int)+1) (((j+1:Nat):Int))] [(2,pt z),(Ij z),(SK c),(100,i6 ((j+1:Nat):Int))] rfl ⟨Be,Ae⟩ ?_
  refine Bz (fun a w' hs=>⟨c.Ac.xs.length - (j+1),by omega,n46,(j+1),rfl,by omega,by omega,hs⟩)
 refine A8 15 0 [0] [[oF],[o0]] [BF ((j:Int)<(c.Ac.xs.length:Int))] [(4,.bool true)] rfl ⟨bf,Ae⟩ ?_
 refine AZ [] [] (.bool true) Ae ?_
 intro w64 hw64
 exact⟨rfl,Bg hw64⟩
structure Ih.ok(F:Nat→Prop)(W:World)(x:Ih):Prop where
 Az:F8 (fun x:Sl Am=>[Sl.val x]) 1 (fun F W x=>F8 Am.cells 3 Am.ok F W x) F W x.Az
 FD:F8 (fun x:Sl Am=>[Sl.val x]) 1 (fun F W x=>F8 Am.cells 3 Am.ok F W x) F W x.FD
 Aa:F8 Ah.cells 8 Ah.ok F W x.Aa
 Ag:F8 (fun x:Sl Ar=>[Sl.val x]) 1 (fun F W x=>F8 Ar.cells 4 Ar.ok F W x) F W x.Ag
 Ai:F8 (fun x:Sl AC=>[Sl.val x]) 1 (fun F W x=>F8 AC.cells 2 AC.ok F W x) F W x.Ai
 Ac:F8 Aw.cells 3 Aw.ok F W x.Ac
theorem Ih.ok.ext{F F':Nat→Prop}{W W':World}(he:Ext F W W')(hF:∀ b,F b→F' b){x:Ih}(h:Ih.ok F W x):Ih.ok F' W' x:=⟨Fa he hF h.Az (fun _ h=>Fa he hF h (fun _ h=>Am.ok.ext he hF h)),Fa he hF h.FD (fun _ h=>Fa he hF h (fun _ h=>Am.ok.ext he hF h)),Fa he hF h.Aa (fun _ h=>Ah.ok.ext he hF h),Fa he hF h.Ag (fun _ h=>Fa he hF h (fun _ h=>Ar.ok.ext he hF h)),Fa he hF h.Ai (fun _ h=>Fa he hF h (fun _ h=>AC.ok.ext he hF h)),Fa he hF h.Ac (fun _ h=>Aw.ok.ext he hF h)⟩
structure Zab(c:Af)(R:Ih):Prop where
 hh:R.Ac.xs=wid GY c.Ac.xs
 wl:R.FD.xs.length=c.Az.xs.length
 w1:∀ q,q<c.Az.xs.length→(gd R.FD.xs q).xs=wid Gh (gd c.Az.xs q).xs
 cl:R.Az.xs.length=c.Az.xs.length+12
 s1:∀ q,q<12→(gd R.Az.xs (c.Az.xs.length+q)).xs=[Gh q]
 pl:R.Aa.xs.length=c.Aa.xs.length+12
 p2:∀ q,q<12→gd R.Aa.xs (c.Aa.xs.length+q)=Gj q
 rl:R.Ag.xs.length=c.Aa.xs.length
 ql:R.Ai.xs.length=c.Aa.xs.length
 r1:∀ q,q<c.Aa.xs.length→(gd R.Ag.xs q).xs=wid JC (gd c.Aa.xs q).Ag.xs
 q1:∀ q,q<c.Aa.xs.length→(gd R.Ai.xs q).xs=wid KI (gd c.Aa.xs q).Ai.xs
theorem room_is{c:Af}{M:RM}(h:Kr c M):Zab c (Uc c M):=by
 obtain⟨⟨a1,a2,a3,a4⟩,⟨s1,s2⟩,⟨b1,b2,b3,b4,b5,b6⟩⟩:=h
 refine⟨rfl,a2,a4, ?_,fun q hq => ?_, ?_,fun q hq => ?_,b2,b3,b5,b6⟩
 ·show(M.cs++M.sp).length=_;rw[List.length_append];omega
 ·show(gd (M.cs++M.sp) _).xs=_;rw[UN (k:=q) (by omega) (by omega)];exact s2 q hq
 ·show(M.ps++BL Gj 12).length=_;rw[List.length_append,Dv];omega
 show gd (M.ps++BL Gj 12) _=_;rw[UN (k:=q) (by omega) (by rw[Dv];exact hq),YJ hq]
theorem ZV{xs:List Am}{k:Nat}(h:xs.length≤k)(h2:k<xs.length+12):gd (wid Gh xs) k=⟨-70 - (k:Int)+(xs.length:Int),0,0⟩:=by
 rw[U0 (k:=k - xs.length) (by omega) (by omega)];unfold Gh;rw[show -70 - ((k - xs.length:Nat):Int) = -70 - (k:Int)+(xs.length:Int)from by omega]
theorem rMk_hi{xs:List Ar}{k:Nat}(h:xs.length≤k)(h2:k<xs.length+12):gd (wid JC xs) k=⟨-70 - (k:Int)+(xs.length:Int),0,0,0⟩:=by
 rw[U0 (k:=k - xs.length) (by omega) (by omega)];unfold JC;rw[show -70 - ((k - xs.length:Nat):Int) = -70 - (k:Int)+(xs.length:Int)from by omega]
theorem qMk_hi{xs:List AC}{k:Nat}(h:xs.length≤k)(h2:k<xs.length+12):gd (wid KI xs) k=⟨-70 - (k:Int)+(xs.length:Int),false⟩:=by
 rw[U0 (k:=k - xs.length) (by omega) (by omega)];unfold KI;rw[show -70 - ((k - xs.length:Nat):Int) = -70 - (k:Int)+(xs.length:Int)from by omega]
theorem pm_yes(w:World)(p:Ah)(k:Nat)(hk:k<12)(hp:Ah.ok Any w p)(hx:p=Gj k):Calls Try.prog 28 #[.agg (Ah.arr p),.agg (Ah.arr (Gj k))] w fun e w'=>e = .returned (.bool true)∧BN (fun _=>False) w w':=by
 subst hx;exact Xz w _ _ hp hp rfl
section
variable (n2 k:Nat)(p:Ah)(n30 j z:Nat)(lr:Sl Ar)(lq:Sl AC)
abbrev VJ:=bk n2 #[i6 (((-70) - (k:Int))+(p.Ag.xs.length:Int)),i6 0,i6 0,i6 0] 54
abbrev Wx:=bk n30 #[i6 (((-70) - (j:Int))+(p.Ai.xs.length:Int)),.bool false] 75
abbrev Gt:=bk z (Ah.arr p) 52
abbrev Hr:=(12,Ad lr.xs.length)
abbrev Jb:=(41,Ad lq.xs.length)
abbrev Jm:Dq:=(0,.slice lr.a lr.xs.length lr.cap)
abbrev ER:Dq:=(1,.slice lq.a lq.xs.length lq.cap)
abbrev Oc:=(10,pt n30)
abbrev Ou:=(8,pt n2)
end
theorem kp_calls(w:World)(lr:Sl Ar)(lq:Sl AC)(p:Ah)(hr:F8 Ar.cells 4 Ar.ok Any w lr)(hq:F8 AC.cells 2 AC.ok Any w lq)(hpo:Ah.ok Any w p)(h1:lr.xs=wid JC p.Ag.xs)(h2:lq.xs=wid KI p.Ai.xs):Calls Try.prog 27 #[.slice lr.a lr.xs.length lr.cap,.slice lq.a lq.xs.length lq.cap,.agg (Ah.arr p)] w fun e w'=>e = .returned (.bool true)∧BN (fun _=>False) w w':=by
 obtain⟨z,hz⟩:∃ z,z=w.heap.size:=⟨_,rfl⟩
 refine BV (args:=[.slice lr.a lr.xs.length lr.cap,.slice lq.a lq.xs.length lq.cap,.agg (Ah.arr p)]) 69 ⟨w,z,[(Ak w)]⟩ Try.func27 rfl (by kernel_rfl) (by kernel_rfl) (Fv hz) ?_
 have hl1:lr.xs.length=p.Ag.xs.length+12:=by rw[h1,Nc]
 have hl2:lq.xs.length=p.Ai.xs.length+12:=by rw[h2,Nc]
 have hb1:=hpo.Ag.1.len;have hb2:=hpo.Ai.1.len;have hb3:=hr.1.len;have hb4:=hq.1.len
 refine Eb [0,1,2] [(Jm lr),(ER lq),(2,.agg (Ah.arr p))] ?_
 refine q_c 10 0 [] [[o0,o0],[o0,o0,o0]] [] [(Jm lr),(ER lq),(5,pt z),(Hr lr),(13,i6 0)] ⟨w,z+1,[(Ak w),(Gt p z)]⟩ rfl Ae ?_
 refine Ce (fun m a w'=>∃ (n2:Nat) (k:Nat),m=(p.Ag.xs.length+12) - k∧z+1≤n2∧(k≤(p.Ag.xs.length+12))∧St 69 [(Jm lr),(ER lq),(5,pt z),(Hr lr),(13,Ad k)] [] ⟨w,n2,[(Ak w),(Gt p z)]⟩ a w') ((p.Ag.xs.length+12) - 0) ?_ ?_
 ·intro a w' hs;exact⟨(z+1),0,rfl,Nat.le_refl _,Nat.zero_le _,hs⟩
 rintro m a w' ⟨n2,k,rfl,hn1,hkk,hs⟩
 refine(?_:G Try.prog 69 [(Jm lr),(ER lq),(5,pt z),(Hr lr),(13,Ad k)] [] ⟨w,n2,[(Ak w),(Gt p z)]⟩ _ _ _) a w' hs
 clear hs a w'
 refine CP ?_
 by_cases h3:(k:Int)<(lr.xs.length:Int)
 ·refine q_c 19 0 [1] [[oT],[o0,o0],[o0,(ov (i6 ((-70) - (k:Int)))),o0,(a1 1),o0,(ov (i6 (((-70) - (k:Int))+(p.Ag.xs.length:Int)))),o0,o0,(an 4 2)]] [BT ((k:Int)<(lr.xs.length:Int)),Wr ((-70:Int) - (k:Int)) ((-70) - (k:Int)),Qb z,Wr (((-70) - (k:Int):Int)+(p.Ag.xs.length:Int)) (((-70) - (k:Int))+(p.Ag.xs.length:Int)),Qb n2,Qb n2,Qb n2,Qb n2] [(Jm lr),(ER lq),(5,pt z),(Hr lr),(13,Ad k),(7,Ad k),(Ou n2)] ⟨w,n2+1,[(Ak w),(Gt p z),(VJ n2 k p)]⟩ rfl ⟨bt,Be,rfl,Be,rfl,rfl,rfl,rfl,Ae⟩ ?_
  by_cases h4:(k:Int)<(p.Ag.xs.length:Int)
  ·refine A8 4 0 [1] [[o0,o0,(a1 1),o0,oT]] [Qb z,BT ((k:Int)<(p.Ag.xs.length:Int))] [(Jm lr),(ER lq),(5,pt z),(Hr lr),(13,Ad k),(7,Ad k),(Ou n2),(27,.bool true)] rfl ⟨rfl,bt,Ae⟩ ?_
   obtain⟨b5,o6,ha7,hF9,hc8⟩:=(hpo.Ag).1.all (show 0<p.Ag.xs.length by omega)
   replace ha7:p.Ag.a=some ⟨b5,o6,none⟩:=ha7
   have hc10:=hc8 k (show k<p.Ag.xs.length by omega)
   have he11:=(hpo.Ag).2 k (show k<p.Ag.xs.length by omega)
   obtain⟨y12,hy12⟩:∃ y_,y_=gd p.Ag.xs k:=⟨_,rfl⟩
   rw[←hy12]at he11 hc10
   refine q_c 4 0 [] [[o0,(Du 1 b5 o6 p.Ag),o0,(oi k),(ol 0 (Ar.arr y12)),(an 4 2)]] [Qb z,Df b5 o6 p.Ag,BI k,k<p.Ag.xs.length,Bq,Eh w b5 (o6+k*4) (Ar.arr y12),Qb n2,Qb n2,Qb n2,Qb n2] [(Jm lr),(ER lq),(5,pt z),(Hr lr),(13,Ad k),(7,Ad k),(Ou n2)] ⟨w,n2+1,[(Ak w),(Gt p z),(bk n2 (Ar.arr y12) 54)]⟩ rfl ⟨rfl,Dh ha7,rfl,(by omega),rfl,CB hc10,rfl,rfl,rfl,rfl,Ae⟩ ?_
   obtain⟨b13,o14,ha15,hF17,hc16⟩:=(hr).1.all (show 0<lr.xs.length by omega)
   replace ha15:lr.a=some ⟨b13,o14,none⟩:=ha15
   refine IZ [(0,.slice (some ⟨b13,o14,none⟩) lr.xs.length lr.cap),(ER lq),(5,pt z),(Hr lr),(13,Ad k),(7,Ad k),(Ou n2)] (by(try dsimp only[VJ,Gt,Hr,Jm,ER,Ou]);simp only[ha15]) ?_
   have hc18:=hc16 k (show k<lr.xs.length by omega)
   have he19:=(hr).2 k (show k<lr.xs.length by omega)
   obtain⟨y20,hy20⟩:∃ y_,y_=gd lr.xs k:=⟨_,rfl⟩
   rw[←hy20]at he19 hc18
   have hpey20:y20=y12:=by rw[hy20,hy12,h1];exact VL (by omega)
   refine Fp 6 [0,1,2] [(Ak w),(Gt p z),(bk n2 (Ar.arr y12) 54)] rfl rfl ?_
   refine CU [(0,o0),(1,o0),(2,(oi k)),(3,(ol 0 (Ar.arr y20))),(4,(an 4 2)),(5,⟨.seq true,none⟩)] [0,1,5,12,13,38] [BI k,k<lr.xs.length,Bq,Eh w b13 (o14+k*4) (Ar.arr y20),Qb n2,Qb n2,Qb n2,Qb n2,((y20.Ci:Int)==(y12.Ci:Int)&&((y20.CE:Int)==(y12.CE:Int)&&((y20.Frame:Int)==(y12.Frame:Int)&&((y20.Lp:Int)==(y12.Lp:Int)&&true))))=true] (Ed 6 0) [(0,.slice (some ⟨b13,o14,none⟩) lr.xs.length lr.cap),(ER lq),(5,pt z),(Hr lr),(13,Ad k),(38,.bool false)] ⟨rfl,(by omega),rfl,CB hc18,rfl,rfl,rfl,rfl,(by rw[hpey20];simp[Gh,GY]),Ae⟩ ?_
   refine D9 ?_
   refine Ja 7 0 [0] [[(ov (i6 ((k+1:Nat):Int))),o0]] [Wr ((k:Int)+1) (((k+1:Nat):Int))] [(0,.slice (some ⟨b13,o14,none⟩) lr.xs.length lr.cap),(ER lq),(5,pt z),(Hr lr),(13,i6 ((k+1:Nat):Int))] rfl ⟨Be,Ae⟩ ?_
   refine BO [0,1] [(Ak w),(Gt p z)] rfl rfl ?_
   refine EP [0,1,5,12,13] [(Jm lr),(ER lq),(5,pt z),(Hr lr),(13,i6 ((k+1:Nat):Int))] (by(try dsimp only[Gt,Hr,Jm,ER,Ou]);simp only[ha15];rfl) ?_
   refine Bz (fun a w' hs=>⟨(p.Ag.xs.length+12) - (k+1),by omega,(n2+1),(k+1),rfl,by omega,by omega,hs⟩)
  refine A8 7 0 [0] [[o0,o0,(a1 1),o0,oF]] [Qb z,BF ((k:Int)<(p.Ag.xs.length:Int))] [(Jm lr),(ER lq),(5,pt z),(Hr lr),(13,Ad k),(7,Ad k),(Ou n2),(27,.bool false)] rfl ⟨rfl,bf,Ae⟩ ?_
  obtain⟨b21,o22,ha23,hF25,hc24⟩:=(hr).1.all (show 0<lr.xs.length by omega)
  replace ha23:lr.a=some ⟨b21,o22,none⟩:=ha23
  refine IZ [(0,.slice (some ⟨b21,o22,none⟩) lr.xs.length lr.cap),(ER lq),(5,pt z),(Hr lr),(13,Ad k),(7,Ad k),(Ou n2),(27,.bool false)] (by(try dsimp only[Gt,Hr,Jm,ER,Ou]);simp only[ha23]) ?_
  have hc26:=hc24 k (show k<lr.xs.length by omega)
  have he27:=(hr).2 k (show k<lr.xs.length by omega)
  obtain⟨y28,hy28⟩:∃ y_,y_=gd lr.xs k:=⟨_,rfl⟩
  rw[←hy28]at he27 hc26
  try have hpey28:=(show y28=gd (wid _ p.Ag.xs) _ from(by rw[hy28,h1])).trans (rMk_hi (by omega) (by omega))
  refine Fp 6 [0,1,2] [(Ak w),(Gt p z),(VJ n2 k p)] rfl rfl ?_
  refine CU [(0,o0),(1,o0),(2,(oi k)),(3,(ol 0 (Ar.arr y28))),(4,(an 4 2)),(5,⟨.seq true,none⟩)] [0,1,5,12,13,38] [BI k,k<lr.xs.length,Bq,Eh w b21 (o22+k*4) (Ar.arr y28),Qb n2,Qb n2,Qb n2,Qb n2,((y28.Ci:Int)==(((-70) - (k:Int))+(p.Ag.xs.length:Int):Int)&&((y28.CE:Int)==(0:Int)&&((y28.Frame:Int)==(0:Int)&&((y28.Lp:Int)==(0:Int)&&true))))=true] (Ed 6 0) [(0,.slice (some ⟨b21,o22,none⟩) lr.xs.length lr.cap),(ER lq),(5,pt z),(Hr lr),(13,Ad k),(38,.bool false)] ⟨rfl,(by omega),rfl,CB hc26,rfl,rfl,rfl,rfl,(by rw[hpey28];simp[Gh,GY]),Ae⟩ ?_
  refine D9 ?_
  refine Ja 7 0 [0] [[(ov (i6 ((k+1:Nat):Int))),o0]] [Wr ((k:Int)+1) (((k+1:Nat):Int))] [(0,.slice (some ⟨b21,o22,none⟩) lr.xs.length lr.cap),(ER lq),(5,pt z),(Hr lr),(13,i6 ((k+1:Nat):Int))] rfl ⟨Be,Ae⟩ ?_
  refine BO [0,1] [(Ak w),(Gt p z)] rfl rfl ?_
  refine EP [0,1,5,12,13] [(Jm lr),(ER lq),(5,pt z),(Hr lr),(13,i6 ((k+1:Nat):Int))] (by(try dsimp only[VJ,Gt,Hr,Jm,ER,Ou]);simp only[ha23];rfl) ?_
  refine Bz (fun a w' hs=>⟨(p.Ag.xs.length+12) - (k+1),by omega,(n2+1),(k+1),rfl,by omega,by omega,hs⟩)
 refine A8 16 0 [0] [[oF],[o0,o0,o0]] [BF ((k:Int)<(lr.xs.length:Int))] [(ER lq),(5,pt z),(Jb lq),(42,i6 0)] rfl ⟨bf,Ae⟩ ?_
 refine Ce (fun m a w'=>∃ (n30:Nat) (j:Nat),m=(p.Ai.xs.length+12) - j∧n2≤n30∧(j≤(p.Ai.xs.length+12))∧St 69 [(ER lq),(5,pt z),(Jb lq),(42,Ad j)] [] ⟨w,n30,[(Ak w),(Gt p z)]⟩ a w') ((p.Ai.xs.length+12) - 0) ?_ ?_
 ·intro a w' hs;exact⟨n2,0,rfl,Nat.le_refl _,Nat.zero_le _,hs⟩
 rintro m a w' ⟨n30,j,rfl,hn29,hkj,hs⟩
 refine(?_:G Try.prog 69 [(ER lq),(5,pt z),(Jb lq),(42,Ad j)] [] ⟨w,n30,[(Ak w),(Gt p z)]⟩ _ _ _) a w' hs
 clear hs a w'
 refine CP ?_
 by_cases h31:(j:Int)<(lq.xs.length:Int)
 ·refine q_c 19 0 [1] [[oT],[o0,o0],[o0,(ov (i6 ((-70) - (j:Int)))),o0,(a1 1),o0,(ov (i6 (((-70) - (j:Int))+(p.Ai.xs.length:Int)))),o0,o0,(an 2 2)]] [BT ((j:Int)<(lq.xs.length:Int)),Wr ((-70:Int) - (j:Int)) ((-70) - (j:Int)),Qb z,Wr (((-70) - (j:Int):Int)+(p.Ai.xs.length:Int)) (((-70) - (j:Int))+(p.Ai.xs.length:Int)),Qb n30,Qb n30] [(ER lq),(5,pt z),(Jb lq),(42,Ad j),(9,Ad j),(Oc n30)] ⟨w,n30+1,[(Ak w),(Gt p z),(Wx p n30 j)]⟩ rfl ⟨bt,Be,rfl,Be,rfl,rfl,Ae⟩ ?_
  by_cases h32:(j:Int)<(p.Ai.xs.length:Int)
  ·refine A8 4 0 [1] [[o0,o0,(a1 1),o0,oT]] [Qb z,BT ((j:Int)<(p.Ai.xs.length:Int))] [(ER lq),(5,pt z),(Jb lq),(42,Ad j),(9,Ad j),(Oc n30),(56,.bool true)] rfl ⟨rfl,bt,Ae⟩ ?_
   obtain⟨b33,o34,ha35,hF37,hc36⟩:=(hpo.Ai).1.all (show 0<p.Ai.xs.length by omega)
   replace ha35:p.Ai.a=some ⟨b33,o34,none⟩:=ha35
   have hc38:=hc36 j (show j<p.Ai.xs.length by omega)
   have he39:=(hpo.Ai).2 j (show j<p.Ai.xs.length by omega)
   obtain⟨y40,hy40⟩:∃ y_,y_=gd p.Ai.xs j:=⟨_,rfl⟩
   rw[←hy40]at he39 hc38
   refine q_c 4 0 [] [[o0,(Du 1 b33 o34 p.Ai),o0,(oi j),(ol 0 (AC.arr y40)),(an 2 2)]] [Qb z,Df b33 o34 p.Ai,BI j,j<p.Ai.xs.length,Bq,Eh w b33 (o34+j*2) (AC.arr y40),Qb n30,Qb n30] [(ER lq),(5,pt z),(Jb lq),(42,Ad j),(9,Ad j),(Oc n30)] ⟨w,n30+1,[(Ak w),(Gt p z),(bk n30 (AC.arr y40) 75)]⟩ rfl ⟨rfl,Dh ha35,rfl,(by omega),rfl,CB hc38,rfl,rfl,Ae⟩ ?_
   obtain⟨b41,o42,ha43,hF45,hc44⟩:=(hq).1.all (show 0<lq.xs.length by omega)
   replace ha43:lq.a=some ⟨b41,o42,none⟩:=ha43
   refine IZ [(1,.slice (some ⟨b41,o42,none⟩) lq.xs.length lq.cap),(5,pt z),(Jb lq),(42,Ad j),(9,Ad j),(Oc n30)] (by(try dsimp only[Wx,Gt,Hr,Jb,Jm,ER,Oc]);simp only[ha43]) ?_
   have hc46:=hc44 j (show j<lq.xs.length by omega)
   have he47:=(hq).2 j (show j<lq.xs.length by omega)
   obtain⟨y48,hy48⟩:∃ y_,y_=gd lq.xs j:=⟨_,rfl⟩
   rw[←hy48]at he47 hc46
   have hpey48:y48=y40:=by rw[hy48,hy40,h2];exact VL (by omega)
   refine Fp 6 [0,1,2] [(Ak w),(Gt p z),(bk n30 (AC.arr y40) 75)] rfl rfl ?_
   refine CU [(0,o0),(1,o0),(2,(oi j)),(3,(ol 0 (AC.arr y48))),(4,(an 2 2)),(5,⟨.seq true,none⟩)] [1,5,41,42,67] [BI j,j<lq.xs.length,Bq,Eh w b41 (o42+j*2) (AC.arr y48),Qb n30,Qb n30,((y48.Channel:Int)==(y40.Channel:Int)&&(y48.Source==y40.Source&&true))=true] (Ed 6 0) [(1,.slice (some ⟨b41,o42,none⟩) lq.xs.length lq.cap),(5,pt z),(Jb lq),(42,Ad j),(67,.bool false)] ⟨rfl,(by omega),rfl,CB hc46,rfl,rfl,(by rw[hpey48];simp[Gh,GY]),Ae⟩ ?_
   refine D9 ?_
   refine Ja 7 0 [0] [[(ov (i6 ((j+1:Nat):Int))),o0]] [Wr ((j:Int)+1) (((j+1:Nat):Int))] [(1,.slice (some ⟨b41,o42,none⟩) lq.xs.length lq.cap),(5,pt z),(Jb lq),(42,i6 ((j+1:Nat):Int))] rfl ⟨Be,Ae⟩ ?_
   refine BO [0,1] [(Ak w),(Gt p z)] rfl rfl ?_
   refine EP [1,5,41,42] [(ER lq),(5,pt z),(Jb lq),(42,i6 ((j+1:Nat):Int))] (by(try dsimp only[Gt,Hr,Jb,Jm,ER,Oc]);simp only[ha43];rfl) ?_
   refine Bz (fun a w' hs=>⟨(p.Ai.xs.length+12) - (j+1),by omega,(n30+1),(j+1),rfl,by omega,by omega,hs⟩)
  refine A8 7 0 [0] [[o0,o0,(a1 1),o0,oF]] [Qb z,BF ((j:Int)<(p.Ai.xs.length:Int))] [(ER lq),(5,pt z),(Jb lq),(42,Ad j),(9,Ad j),(Oc n30),(56,.bool false)] rfl ⟨rfl,bf,Ae⟩ ?_
  obtain⟨b49,o50,ha51,hF53,hc52⟩:=(hq).1.all (show 0<lq.xs.length by omega)
  replace ha51:lq.a=some ⟨b49,o50,none⟩:=ha51
  refine IZ [(1,.slice (some ⟨b49,o50,none⟩) lq.xs.length lq.cap),(5,pt z),(Jb lq),(42,Ad j),(9,Ad j),(Oc n30),(56,.bool false)] (by(try dsimp only[Gt,Hr,Jb,Jm,ER,Oc]);simp only[ha51]) ?_
  have hc54:=hc52 j (show j<lq.xs.length by omega)
  have he55:=(hq).2 j (show j<lq.xs.length by omega)
  obtain⟨y56,hy56⟩:∃ y_,y_=gd lq.xs j:=⟨_,rfl⟩
  rw[←hy56]at he55 hc54
  try have hpey56:=(show y56=gd (wid _ p.Ai.xs) _ from(by rw[hy56,h2])).trans (qMk_hi (by omega) (by omega))
  refine Fp 6 [0,1,2] [(Ak w),(Gt p z),(Wx p n30 j)] rfl rfl ?_
  refine CU [(0,o0),(1,o0),(2,(oi j)),(3,(ol 0 (AC.arr y56))),(4,(an 2 2)),(5,⟨.seq true,none⟩)] [1,5,41,42,67] [BI j,j<lq.xs.length,Bq,Eh w b49 (o50+j*2) (AC.arr y56),Qb n30,Qb n30,((y56.Channel:Int)==(((-70) - (j:Int))+(p.Ai.xs.length:Int):Int)&&(y56.Source==false&&true))=true] (Ed 6 0) [(1,.slice (some ⟨b49,o50,none⟩) lq.xs.length lq.cap),(5,pt z),(Jb lq),(42,Ad j),(67,.bool false)] ⟨rfl,(by omega),rfl,CB hc54,rfl,rfl,(by rw[hpey56];simp[Gh,GY]),Ae⟩ ?_
  refine D9 ?_
  refine Ja 7 0 [0] [[(ov (i6 ((j+1:Nat):Int))),o0]] [Wr ((j:Int)+1) (((j+1:Nat):Int))] [(1,.slice (some ⟨b49,o50,none⟩) lq.xs.length lq.cap),(5,pt z),(Jb lq),(42,i6 ((j+1:Nat):Int))] rfl ⟨Be,Ae⟩ ?_
  refine BO [0,1] [(Ak w),(Gt p z)] rfl rfl ?_
  refine EP [1,5,41,42] [(ER lq),(5,pt z),(Jb lq),(42,i6 ((j+1:Nat):Int))] (by(try dsimp only[Wx,Gt,Hr,Jb,Jm,ER,Oc]);simp only[ha51];rfl) ?_
  refine Bz (fun a w' hs=>⟨(p.Ai.xs.length+12) - (j+1),by omega,(n30+1),(j+1),rfl,by omega,by omega,hs⟩)
 refine A8 15 0 [0] [[oF],[o0]] [BF ((j:Int)<(lq.xs.length:Int))] [(6,.bool true)] rfl ⟨bf,Ae⟩ ?_
 refine AZ [] [] (.bool true) Ae ?_
 intro w57 hw57
 exact⟨rfl,Bg hw57⟩
section
variable (z:Nat)(c:Af)(R:Ih)(C:Af)(y21 y13:Sl Am)
abbrev Ky:=bk (z+2) (Af.arr c) 26
abbrev KF:=bk (z+1) (Ih.arr R) 44
abbrev Ko:=bk z (Af.arr C) 26
abbrev QM:=(84,Ad c.Aa.xs.length)
abbrev JQ:=(20,Ad c.Az.xs.length)
abbrev Oe:=(35,Ad y21.xs.length)
abbrev Nr:=(8,Ad y13.xs.length)
abbrev EL:=(4,pt (z+1))
abbrev EO:=(5,pt (z+2))
end
theorem Zt(w:World)(c C:Af)(R:Ih)(hC:Af.ok Any w C)(hR:Ih.ok Any w R)(hc:Af.ok Any w c)(hI:Zab c R)(hS:strip C=strip c):Calls Try.prog 13 #[.agg (Af.arr C),.agg (Ih.arr R),.agg (Af.arr c)] w fun e w'=>e = .returned (.bool true)∧BN (fun _=>False) w w':=by
 obtain⟨z,hz⟩:∃ z,z=w.heap.size:=⟨_,rfl⟩
 refine BV (args:=[.agg (Af.arr C),.agg (Ih.arr R),.agg (Af.arr c)]) 161 ⟨w,z,[(Ak w)]⟩ Try.func13 rfl (by kernel_rfl) (by kernel_rfl) (Fv hz) ?_
 have h1:=hI.wl;have h2:=hI.cl;have h3:=hI.pl;have h4:=hI.rl;have h5:=hI.ql;have hhl:R.Ac.xs.length=c.Ac.xs.length+12:=by rw[hI.hh,Nc]
 have hb1:=hR.Az.1.len;have hb2:=hR.Aa.1.len;have hb3:=hR.Ac.1.len
 refine Eb [0,1,2] [(0,.agg (Af.arr C)),(1,.agg (Ih.arr R)),(2,.agg (Af.arr c))] ?_
 refine q_c 7 2 [] [[o0,o0,o0,o0],[(an 7 1),(an 7 3)]] [Qb z,Qb z,Qb z,Qb z,Qb z,Qb z,Qb z,Qb (z+2),Qb (z+2),Qb (z+2),Qb (z+2),Qb (z+2),Qb (z+2),Qb (z+2)] [(EL z),(EO z),(14,.agg (Af.arr C)),(15,.agg (Af.arr c))] ⟨w,z+3,[(Ak w),(Ko z C),(KF z R),(Ky z c)]⟩ rfl ⟨rfl,rfl,rfl,rfl,rfl,rfl,rfl,rfl,rfl,rfl,rfl,rfl,rfl,rfl,Ae⟩ ?_
 refine l_call [] [] 26 #[.agg (Af.arr C),.agg (Af.arr c)] (some 16) Ae ?_
 intro w1 hw1
 refine(same_yes w1 C c (hC.ext (hw1.ext rfl) (fun _ h=>h)) (hc.ext (hw1.ext rfl) (fun _ h=>h)) hS).mono ?_
 rintro e w2 ⟨rfl,hkw2⟩
 have hnw2:z+3≤w2.heap.size:=Dx hw1 hkw2
 refine⟨_,_,rfl,hw1.keeps hkw2, ?_⟩
 refine Di 11 0 [0] [[o0],[o0,(a1 3),o0,o0]] [Qb (z+2)] [(EL z),(EO z),(JQ c),(21,i6 0)] rfl ⟨rfl,Ae⟩ ?_
 refine Ce (fun m a w'=>∃ (n4:Nat) (i:Nat),m=c.Az.xs.length - i∧w2.heap.size≤n4∧(i≤c.Az.xs.length)∧St 161 [(EL z),(EO z),(JQ c),(21,Ad i)] [] ⟨w,n4,[(Ak w),(Ko z C),(KF z R),(Ky z c)]⟩ a w') (c.Az.xs.length - 0) ?_ ?_
 ·intro a w' hs;exact⟨w2.heap.size,0,rfl,Nat.le_refl _,Nat.zero_le _,hs⟩
 rintro m a w' ⟨n4,i,rfl,hn3,hki,hs⟩
 refine(?_:G Try.prog 161 [(EL z),(EO z),(JQ c),(21,Ad i)] [] ⟨w,n4,[(Ak w),(Ko z C),(KF z R),(Ky z c)]⟩ _ _ _) a w' hs
 clear hs a w'
 refine CP ?_
 by_cases h5:(i:Int)<(c.Az.xs.length:Int)
 ·refine A8 14 0 [1] [[oT],[o0,o0]] [BT ((i:Int)<(c.Az.xs.length:Int))] [(EL z),(EO z),(JQ c),(21,Ad i),(7,Ad i)] rfl ⟨bt,Ae⟩ ?_
  obtain⟨b6,o7,ha8,hF10,hc9⟩:=(hc.Az).1.all (show 0<c.Az.xs.length by omega)
  replace ha8:c.Az.a=some ⟨b6,o7,none⟩:=ha8
  have hc11:=hc9 i (show i<c.Az.xs.length by omega)
  have he12:=(hc.Az).2 i (show i<c.Az.xs.length by omega)
  obtain⟨y13,hy13⟩:∃ y_,y_=gd c.Az.xs i:=⟨_,rfl⟩
  rw[←hy13]at he12 hc11
  have hyly13:=he12.1.len
  refine A8 4 0 [] [[o0,(Du 3 b6 o7 c.Az),o0,(oi i),(oa [.via 0 (.slice y13.a y13.xs.length y13.cap)]),o0,o0]] [Qb (z+2),Df b6 o7 c.Az,BI i,i<c.Az.xs.length,Bq,Old w b6 (o7+i) (.slice y13.a y13.xs.length y13.cap)] [(EL z),(EO z),(JQ c),(21,Ad i),(7,Ad i),(Nr y13)] rfl ⟨rfl,Dh ha8,rfl,(by omega),rfl,BA (hc11 0 _ rfl),Ae⟩ ?_
  obtain⟨b14,o15,ha16,hF18,hc17⟩:=(hR.FD).1.all (show 0<R.FD.xs.length by omega)
  replace ha16:R.FD.a=some ⟨b14,o15,none⟩:=ha16
  have hc19:=hc17 i (show i<R.FD.xs.length by omega)
  have he20:=(hR.FD).2 i (show i<R.FD.xs.length by omega)
  obtain⟨y21,hy21⟩:∃ y_,y_=gd R.FD.xs i:=⟨_,rfl⟩
  rw[←hy21]at he20 hc19
  have hxwy21:=hI.w1 i (by omega);rw[←hy21,←hy13]at hxwy21;have hlwy21:y21.xs.length=y13.xs.length+12:=by rw[hxwy21,Nc]
  refine A8 4 0 [] [[o0,(Du 2 b14 o15 R.FD),o0,(oi i),(oa [.via 0 (.slice y21.a y21.xs.length y21.cap)]),o0,o0]] [Qb (z+1),Df b14 o15 R.FD,BI i,i<R.FD.xs.length,Bq,Old w b14 (o15+i) (.slice y21.a y21.xs.length y21.cap)] [(EL z),(EO z),(7,Ad i),(Nr y13),(JQ c),(21,Ad i),(Oe y21),(36,i6 0)] rfl ⟨rfl,Dh ha16,rfl,(by omega),rfl,BA (hc19 0 _ rfl),Ae⟩ ?_
  refine Ce (fun m a w'=>∃ (n23:Nat) (k:Nat),m=(y13.xs.length+12) - k∧n4≤n23∧(k≤(y13.xs.length+12))∧St 161 [(EL z),(EO z),(7,Ad i),(Nr y13),(JQ c),(21,Ad i),(Oe y21),(36,Ad k)] [] ⟨w,n23,[(Ak w),(Ko z C),(KF z R),(Ky z c)]⟩ a w') ((y13.xs.length+12) - 0) ?_ ?_
  ·intro a w' hs;exact⟨n4,0,rfl,Nat.le_refl _,Nat.zero_le _,hs⟩
  rintro m a w' ⟨n23,k,rfl,hn22,hkk,hs⟩
  refine(?_:G Try.prog 161 [(EL z),(EO z),(7,Ad i),(Nr y13),(JQ c),(21,Ad i),(Oe y21),(36,Ad k)] [] ⟨w,n23,[(Ak w),(Ko z C),(KF z R),(Ky z c)]⟩ _ _ _) a w' hs
  clear hs a w'
  refine CP ?_
  by_cases h24:(k:Int)<(y21.xs.length:Int)
  ·refine A8 15 0 [1] [[oT],[o0,o0]] [BT ((k:Int)<(y21.xs.length:Int))] [(EL z),(EO z),(7,Ad i),(Nr y13),(JQ c),(21,Ad i),(Oe y21),(36,Ad k),(9,Ad k)] rfl ⟨bt,Ae⟩ ?_
   by_cases h25:(k:Int)<(y13.xs.length:Int)
   ·obtain⟨b26,o27,ha28,hF30,hc29⟩:=(he20).1.all (show 0<y21.xs.length by omega)
    replace ha28:y21.a=some ⟨b26,o27,none⟩:=ha28
    have hc31:=hc29 k (show k<y21.xs.length by omega)
    have he32:=(he20).2 k (show k<y21.xs.length by omega)
    obtain⟨y33,hy33⟩:∃ y_,y_=gd y21.xs k:=⟨_,rfl⟩
    rw[←hy33]at he32 hc31
    try have hpey33:=(show y33=gd (wid _ y13.xs) _ from(by rw[hy33,hxwy21])).trans (ZV (by omega) (by omega))
    obtain⟨b34,o35,ha36,hF38,hc37⟩:=(he12).1.all (show 0<y13.xs.length by omega)
    replace ha36:y13.a=some ⟨b34,o35,none⟩:=ha36
    have hc39:=hc37 k (show k<y13.xs.length by omega)
    have he40:=(he12).2 k (show k<y13.xs.length by omega)
    obtain⟨y41,hy41⟩:∃ y_,y_=gd y13.xs k:=⟨_,rfl⟩
    rw[←hy41]at he40 hc39
    have hpey33:y33=y41:=by rw[hy33,hy41,hxwy21];exact VL (by omega)
    refine Fp 22 [0,1,2,3] [(Ak w),(Ko z C),(KF z R),(Ky z c)] rfl rfl ?_
    refine CU [(0,o0),(1,o0),(2,oT),(3,o0),(4,o0),(5,(Du 2 b14 o15 R.FD)),(6,o0),(7,(oi i)),(8,⟨.auto [.via 0 (.slice y21.a y21.xs.length y21.cap)],some (.slice (some ⟨b26,o27,none⟩) y21.xs.length y21.cap)⟩),(9,o0),(10,(oi k)),(11,(ol 0 (Am.arr y33))),(12,o0),(13,(Du 3 b6 o7 c.Az)),(14,o0),(15,(oi i)),(16,⟨.auto [.via 0 (.slice y13.a y13.xs.length y13.cap)],some (.slice (some ⟨b34,o35,none⟩) y13.xs.length y13.cap)⟩),(17,o0),(18,(oi k)),(19,(ol 0 (Am.arr y41))),(20,⟨.seq true,none⟩),(21,o0)] [4,5,7,8,20,21,35,36,9,60] [BT ((k:Int)<(y13.xs.length:Int)),Qb (z+1),Df b14 o15 R.FD,BI i,i<R.FD.xs.length,Bq,Old w b14 (o15+i) (.slice y21.a y21.xs.length y21.cap),Df b26 o27 y21,BI k,k<y21.xs.length,Bq,Eh w b26 (o27+k*3) (Am.arr y33),Qb (z+2),Df b6 o7 c.Az,BI i,i<c.Az.xs.length,Bq,Old w b6 (o7+i) (.slice y13.a y13.xs.length y13.cap),Df b34 o35 y13,BI k,k<y13.xs.length,Bq,Eh w b34 (o35+k*3) (Am.arr y41),((y33.Partition:Int)==(y41.Partition:Int)&&((y33.LJ:Int)==(y41.LJ:Int)&&((y33.NK:Int)==(y41.NK:Int)&&true)))=true] (Ed 22 0) [(EL z),(EO z),(7,Ad i),(Nr y13),(JQ c),(21,Ad i),(Oe y21),(36,Ad k),(9,Ad k),(60,.bool false)] ⟨bt,rfl,Dh ha16,rfl,(by omega),rfl,BA (hc19 0 _ rfl),Dh ha28,rfl,(by omega),rfl,CB hc31,rfl,Dh ha8,rfl,(by omega),rfl,BA (hc11 0 _ rfl),Dh ha36,rfl,(by omega),rfl,CB hc39,(by rw[hpey33];simp[Gh,GY]),Ae⟩ ?_
    refine D9 ?_
    refine Ja 14 0 [0,0] [[o0,o0,oF,o0,o0],[(ov (i6 ((k+1:Nat):Int))),o0]] [BF ((k:Int)≥(y13.xs.length:Int)),Wr ((k:Int)+1) (((k+1:Nat):Int))] [(EL z),(EO z),(7,Ad i),(Nr y13),(JQ c),(21,Ad i),(Oe y21),(36,i6 ((k+1:Nat):Int))] rfl ⟨bf,Be,Ae⟩ ?_
    refine Bz (fun a w' hs=>⟨(y13.xs.length+12) - (k+1),by omega,n23,(k+1),rfl,by omega,by omega,hs⟩)
   refine Fp 22 [0,1,2,3] [(Ak w),(Ko z C),(KF z R),(Ky z c)] rfl rfl ?_
   refine CU [(0,o0),(1,o0),(2,oF),(3,o0),(4,o0),(5,o0),(6,o0),(7,o0),(8,o0),(9,o0),(10,o0),(11,o0),(12,o0),(13,o0),(14,o0),(15,o0),(16,o0),(17,o0),(18,o0),(19,o0),(20,o0),(21,o0)] [4,5,7,8,20,21,35,36,9,60] [BF ((k:Int)<(y13.xs.length:Int))] (Ed 22 0) [(EL z),(EO z),(7,Ad i),(Nr y13),(JQ c),(21,Ad i),(Oe y21),(36,Ad k),(9,Ad k),(60,.bool false)] ⟨bf,Ae⟩ ?_
   refine D9 ?_
   refine Dp [4,5,7,8,20,21,35,36,9,60] [(EL z),(EO z),(7,Ad i),(Nr y13),(JQ c),(21,Ad i),(Oe y21),(36,Ad k),(9,Ad k),(60,.bool false)] ?_
   refine UI <| Xh <| g_skip <| UI <| CP ?_
   obtain⟨b42,o43,ha44,hF46,hc45⟩:=(he20).1.all (show 0<y21.xs.length by omega)
   replace ha44:y21.a=some ⟨b42,o43,none⟩:=ha44
   have hc47:=hc45 k (show k<y21.xs.length by omega)
   have he48:=(he20).2 k (show k<y21.xs.length by omega)
   obtain⟨y49,hy49⟩:∃ y_,y_=gd y21.xs k:=⟨_,rfl⟩
   rw[←hy49]at he48 hc47
   try have hpey49:=(show y49=gd (wid _ y13.xs) _ from(by rw[hy49,hxwy21])).trans (ZV (by omega) (by omega))
   refine A8 9 0 [0] [[o0,o0,oT,o0,o0,(Du 2 b14 o15 R.FD),o0,(oi i),⟨.auto [.via 0 (.slice y21.a y21.xs.length y21.cap)],some (.slice (some ⟨b42,o43,none⟩) y21.xs.length y21.cap)⟩,o0,(oi k),(ol 0 (Am.arr y49)),o0,(ov (i6 ((-70) - (k:Int)))),o0,(ov (i6 (((-70) - (k:Int))+(y13.xs.length:Int)))),o0,⟨.seq true,none⟩,o0],[(ov (i6 ((k+1:Nat):Int))),o0]] [BT ((k:Int)≥(y13.xs.length:Int)),Qb (z+1),Df b14 o15 R.FD,BI i,i<R.FD.xs.length,Bq,Old w b14 (o15+i) (.slice y21.a y21.xs.length y21.cap),Df b42 o43 y21,BI k,k<y21.xs.length,Bq,Eh w b42 (o43+k*3) (Am.arr y49),Wr ((-70:Int) - (k:Int)) ((-70) - (k:Int)),Wr (((-70) - (k:Int):Int)+(y13.xs.length:Int)) (((-70) - (k:Int))+(y13.xs.length:Int)),((y49.Partition:Int)==(((-70) - (k:Int))+(y13.xs.length:Int):Int)&&((y49.LJ:Int)==(0:Int)&&((y49.NK:Int)==(0:Int)&&true)))=true,Wr ((k:Int)+1) (((k+1:Nat):Int))] [(EL z),(EO z),(7,Ad i),(Nr y13),(JQ c),(21,Ad i),(Oe y21),(36,i6 ((k+1:Nat):Int))] rfl ⟨bt,rfl,Dh ha16,rfl,(by omega),rfl,BA (hc19 0 _ rfl),Dh ha44,rfl,(by omega),rfl,CB hc47,Be,Be,(by rw[hpey49];simp[Gh,GY]),Be,Ae⟩ ?_
   refine Bz (fun a w' hs=>⟨(y13.xs.length+12) - (k+1),by omega,n23,(k+1),rfl,by omega,by omega,hs⟩)
  refine A8 13 0 [0] [[oF],[(ov (i6 ((i+1:Nat):Int))),o0]] [BF ((k:Int)<(y21.xs.length:Int)),Wr ((i:Int)+1) (((i+1:Nat):Int))] [(EL z),(EO z),(JQ c),(21,i6 ((i+1:Nat):Int))] rfl ⟨bf,Be,Ae⟩ ?_
  refine Bz (fun a w' hs=>⟨c.Az.xs.length - (i+1),by omega,n23,(i+1),rfl,by omega,by omega,hs⟩)
 refine A8 16 0 [0] [[oF],[o0,(a1 3),o0,o0]] [BF ((i:Int)<(c.Az.xs.length:Int)),Qb (z+2)] [(EL z),(EO z),(QM c),(85,i6 0)] rfl ⟨bf,rfl,Ae⟩ ?_
 refine Ce (fun m a w'=>∃ (n51:Nat) (p:Nat),m=c.Aa.xs.length - p∧n4≤n51∧(p≤c.Aa.xs.length)∧St 161 [(EL z),(EO z),(QM c),(85,Ad p)] [] ⟨w,n51,[(Ak w),(Ko z C),(KF z R),(Ky z c)]⟩ a w') (c.Aa.xs.length - 0) ?_ ?_
 ·intro a w' hs;exact⟨n4,0,rfl,Nat.le_refl _,Nat.zero_le _,hs⟩
 rintro m a w' ⟨n51,p,rfl,hn50,hkp,hs⟩
 refine(?_:G Try.prog 161 [(EL z),(EO z),(QM c),(85,Ad p)] [] ⟨w,n51,[(Ak w),(Ko z C),(KF z R),(Ky z c)]⟩ _ _ _) a w' hs
 clear hs a w'
 refine CP ?_
 by_cases h52:(p:Int)<(c.Aa.xs.length:Int)
 ·refine A8 14 0 [1] [[oT],[o0,o0]] [BT ((p:Int)<(c.Aa.xs.length:Int))] [(EL z),(EO z),(QM c),(85,Ad p),(10,Ad p)] rfl ⟨bt,Ae⟩ ?_
  obtain⟨b53,o54,ha55,hF57,hc56⟩:=(hR.Ag).1.all (show 0<R.Ag.xs.length by omega)
  replace ha55:R.Ag.a=some ⟨b53,o54,none⟩:=ha55
  have hc58:=hc56 p (show p<R.Ag.xs.length by omega)
  have he59:=(hR.Ag).2 p (show p<R.Ag.xs.length by omega)
  obtain⟨y60,hy60⟩:∃ y_,y_=gd R.Ag.xs p:=⟨_,rfl⟩
  rw[←hy60]at he59 hc58
  obtain⟨b61,o62,ha63,hF65,hc64⟩:=(hR.Ai).1.all (show 0<R.Ai.xs.length by omega)
  replace ha63:R.Ai.a=some ⟨b61,o62,none⟩:=ha63
  have hc66:=hc64 p (show p<R.Ai.xs.length by omega)
  have he67:=(hR.Ai).2 p (show p<R.Ai.xs.length by omega)
  obtain⟨y68,hy68⟩:∃ y_,y_=gd R.Ai.xs p:=⟨_,rfl⟩
  rw[←hy68]at he67 hc66
  obtain⟨b69,o70,ha71,hF73,hc72⟩:=(hc.Aa).1.all (show 0<c.Aa.xs.length by omega)
  replace ha71:c.Aa.a=some ⟨b69,o70,none⟩:=ha71
  have hc74:=hc72 p (show p<c.Aa.xs.length by omega)
  have he75:=(hc.Aa).2 p (show p<c.Aa.xs.length by omega)
  obtain⟨y76,hy76⟩:∃ y_,y_=gd c.Aa.xs p:=⟨_,rfl⟩
  rw[←hy76]at he75 hc74
  refine Fp 17 [0,1,2,3] [(Ak w),(Ko z C),(KF z R),(Ky z c)] rfl rfl ?_
  refine w_chainN [.tk 0 o0,.tk 1 (Du 2 b53 o54 R.Ag),.tk 2 o0,.tk 3 (oi p),.tk 4 (oa [.via 0 (.slice y60.a y60.xs.length y60.cap)]),.tk 5 o0,.tk 6 (Du 2 b61 o62 R.Ai),.tk 7 o0,.tk 8 (oi p),.tk 9 (oa [.via 0 (.slice y68.a y68.xs.length y68.cap)]),.tk 10 o0,.tk 11 (Du 3 b69 o70 c.Aa),.tk 12 o0,.tk 13 (oi p),.tk 14 (ol 0 (Ah.arr y76)),.cl 15 (.bool true),.tk 16 o0] [4,5,84,85,104] [(27,#[.slice y60.a y60.xs.length y60.cap,.slice y68.a y68.xs.length y68.cap,.agg (Ah.arr y76)],.bool true)] (Ed 17 0) [Qb (z+1),Df b53 o54 R.Ag,BI p,p<R.Ag.xs.length,Bq,Old w b53 (o54+p) (.slice y60.a y60.xs.length y60.cap),Qb (z+1),Df b61 o62 R.Ai,BI p,p<R.Ai.xs.length,Bq,Old w b61 (o62+p) (.slice y68.a y68.xs.length y68.cap),Qb (z+2),Df b69 o70 c.Aa,BI p,p<c.Aa.xs.length,Bq,Eh w b69 (o70+p*8) (Ah.arr y76)] [(EL z),(EO z),(QM c),(85,Ad p),(104,.bool false)] [0,1,2,3] ⟨rfl,Dh ha55,rfl,(by omega),rfl,BA (hc58 0 _ rfl),rfl,Dh ha63,rfl,(by omega),rfl,BA (hc66 0 _ rfl),rfl,Dh ha71,rfl,(by omega),rfl,CB hc74,Ae⟩ ⟨fun w77 hw77=>kp_calls w77 y60 y68 y76 (Fa (hw77.ext rfl) (fun _ h=>h) he59 (fun _ h=>Ar.ok.ext (hw77.ext rfl) (fun _ h=>h) h)) (Fa (hw77.ext rfl) (fun _ h=>h) he67 (fun _ h=>AC.ok.ext (hw77.ext rfl) (fun _ h=>h) h)) (he75.ext (hw77.ext rfl) (fun _ h=>h)) (by rw[hy60,hy76];exact hI.r1 p (by omega)) (by rw[hy68,hy76];exact hI.q1 p (by omega)),Ae⟩ (fun n78 hn79 => ?_)
  replace hn79:n51≤n78:=hn79
  refine D9 ?_
  refine Ja 7 0 [0] [[(ov (i6 ((p+1:Nat):Int))),o0]] [Wr ((p:Int)+1) (((p+1:Nat):Int))] [(EL z),(EO z),(QM c),(85,i6 ((p+1:Nat):Int))] rfl ⟨Be,Ae⟩ ?_
  refine Bz (fun a w' hs=>⟨c.Aa.xs.length - (p+1),by omega,n78,(p+1),rfl,by omega,by omega,hs⟩)
 refine A8 16 0 [0] [[oF],[o0]] [BF ((p:Int)<(c.Aa.xs.length:Int))] [(EL z),(EO z),(106,i6 0)] rfl ⟨bf,Ae⟩ ?_
 refine Ce (fun m a w'=>∃ (n81:Nat) (k2:Nat),m=12 - k2∧n51≤n81∧(k2≤12)∧St 161 [(EL z),(EO z),(106,Ad k2)] [] ⟨w,n81,[(Ak w),(Ko z C),(KF z R),(Ky z c)]⟩ a w') (12 - 0) ?_ ?_
 ·intro a w' hs;exact⟨n51,0,rfl,Nat.le_refl _,Nat.zero_le _,hs⟩
 rintro m a w' ⟨n81,k2,rfl,hn80,hkk2,hs⟩
 refine(?_:G Try.prog 161 [(EL z),(EO z),(106,Ad k2)] [] ⟨w,n81,[(Ak w),(Ko z C),(KF z R),(Ky z c)]⟩ _ _ _) a w' hs
 clear hs a w'
 refine CP ?_
 by_cases h82:(k2:Int)<12
 ·refine A8 14 0 [1] [[oT],[o0,o0]] [BT ((k2:Int)<12)] [(EL z),(EO z),(106,Ad k2),(11,Ad k2)] rfl ⟨bt,Ae⟩ ?_
  obtain⟨b83,o84,ha85,hF87,hc86⟩:=(hR.Az).1.all (show 0<R.Az.xs.length by omega)
  replace ha85:R.Az.a=some ⟨b83,o84,none⟩:=ha85
  have hc88:=hc86 (c.Az.xs.length+k2) (show c.Az.xs.length+k2<R.Az.xs.length by omega)
  have he89:=(hR.Az).2 (c.Az.xs.length+k2) (show c.Az.xs.length+k2<R.Az.xs.length by omega)
  obtain⟨y90,hy90⟩:∃ y_,y_=gd R.Az.xs (c.Az.xs.length+k2):=⟨_,rfl⟩
  rw[←hy90]at he89 hc88
  have hxcy90:=hI.s1 k2 (by omega);rw[←hy90]at hxcy90;have hlcy90:y90.xs.length=1:=by rw[hxcy90];rfl
  refine A8 4 0 [] [[o0,(Du 2 b83 o84 R.Az),o0,(a1 3),o0,o0,(ov (i6 ((c.Az.xs.length+k2:Nat):Int))),(oi (c.Az.xs.length+k2)),(oa [.via 0 (.slice y90.a y90.xs.length y90.cap)]),o0]] [Qb (z+1),Df b83 o84 R.Az,Qb (z+2),Wr ((c.Az.xs.length:Int)+(k2:Int)) (((c.Az.xs.length+k2:Nat):Int)),(((c.Az.xs.length+k2:Nat):Int):Int)=((c.Az.xs.length+k2:Nat):Int),c.Az.xs.length+k2<R.Az.xs.length,Bq,Old w b83 (o84+(c.Az.xs.length+k2)) (.slice y90.a y90.xs.length y90.cap)] [(EL z),(EO z),(106,Ad k2),(11,Ad k2),(12,.slice y90.a y90.xs.length y90.cap)] rfl ⟨rfl,Dh ha85,rfl,Be,rfl,(by omega),rfl,BA (hc88 0 _ rfl),Ae⟩ ?_
  obtain⟨b91,o92,ha93,hF95,hc94⟩:=(hR.Aa).1.all (show 0<R.Aa.xs.length by omega)
  replace ha93:R.Aa.a=some ⟨b91,o92,none⟩:=ha93
  have hc96:=hc94 (c.Aa.xs.length+k2) (show c.Aa.xs.length+k2<R.Aa.xs.length by omega)
  have he97:=(hR.Aa).2 (c.Aa.xs.length+k2) (show c.Aa.xs.length+k2<R.Aa.xs.length by omega)
  obtain⟨y98,hy98⟩:∃ y_,y_=gd R.Aa.xs (c.Aa.xs.length+k2):=⟨_,rfl⟩
  rw[←hy98]at he97 hc96
  have hxpy98:=hI.p2 k2 (by omega);rw[←hy98]at hxpy98
  refine q_c 5 0 [] [[o0,(Du 2 b91 o92 R.Aa),o0,(a1 3),o0,o0,(ov (i6 ((c.Aa.xs.length+k2:Nat):Int))),(oi (c.Aa.xs.length+k2)),(ol 0 (Ah.arr y98)),o0,(an 8 4)]] [Qb (z+1),Df b91 o92 R.Aa,Qb (z+2),Wr ((c.Aa.xs.length:Int)+(k2:Int)) (((c.Aa.xs.length+k2:Nat):Int)),(((c.Aa.xs.length+k2:Nat):Int):Int)=((c.Aa.xs.length+k2:Nat):Int),c.Aa.xs.length+k2<R.Aa.xs.length,Bq,Eh w b91 (o92+((c.Aa.xs.length+k2)*8)) (Ah.arr y98),Qb n81,Qb n81,Qb n81,Qb n81,Qb n81,Qb n81,Qb n81,Qb n81] [(EL z),(EO z),(106,Ad k2),(11,Ad k2),(12,.slice y90.a y90.xs.length y90.cap),(13,pt n81)] ⟨w,n81+1,[(Ak w),(Ko z C),(KF z R),(Ky z c),(bk n81 (Ah.arr y98) 52)]⟩ rfl ⟨rfl,Dh ha93,rfl,Be,rfl,(by omega),rfl,CB hc96,rfl,rfl,rfl,rfl,rfl,rfl,rfl,rfl,Ae⟩ ?_
  obtain⟨b99,o100,ha101,hF103,hc102⟩:=(he89).1.all (show 0<y90.xs.length by omega)
  replace ha101:y90.a=some ⟨b99,o100,none⟩:=ha101
  refine IZ [(EL z),(EO z),(106,Ad k2),(11,Ad k2),(12,.slice (some ⟨b99,o100,none⟩) y90.xs.length y90.cap),(13,pt n81)] (by(try dsimp only[Ky,KF,Ko,QM,JQ,Oe,Nr,EL,EO]);simp only[ha101]) ?_
  have hc104:=hc102 0 (show 0<y90.xs.length by omega)
  have he105:=(he89).2 0 (show 0<y90.xs.length by omega)
  obtain⟨y106,hy106⟩:∃ y_,y_=gd y90.xs 0:=⟨_,rfl⟩
  rw[←hy106]at he105 hc104
  have hpey106:y106=Gh k2:=by rw[hy106,hxcy90];rfl
  refine A8 1 17 [] [[o0,o0,oF,o0,o0,(oi 0),(ol 0 (Am.arr y106)),o0,(ov (i6 ((-70) - (k2:Int)))),o0,⟨.seq true,none⟩,o0,o0,(an 8 4),o0,(ov (i6 ((-70) - (k2:Int)))),o0]] [NF (y90.xs.length:Int) 1,(0:Int)=((0:Nat):Int),0<y90.xs.length,Bq,Eh w b99 o100 (Am.arr y106),Wr ((-70:Int) - (k2:Int)) ((-70) - (k2:Int)),((y106.Partition:Int)==((-70) - (k2:Int):Int)&&((y106.LJ:Int)==(0:Int)&&((y106.NK:Int)==(0:Int)&&true)))=true,Qb n81,Qb n81,Qb n81,Qb n81,Qb n81,Qb n81,Qb n81,Qb n81,Wr ((-70:Int) - (k2:Int)) ((-70) - (k2:Int))] [(EL z),(EO z),(106,Ad k2),(11,Ad k2),(139,.bool false),(140,.agg (Ah.arr y98)),(143,.agg #[.string (⟨#[]⟩),i6 ((-70) - (k2:Int)),i6 0,i6 0,i6 0,i6 0,.slice none 0 0,.slice none 0 0])] rfl ⟨nf,rfl,(by omega),rfl,CB hc104,Be,(by rw[hpey106];simp[Gh,GY]),rfl,rfl,rfl,rfl,rfl,rfl,rfl,rfl,Be,Ae⟩ ?_
  refine H5 28 #[.agg (Ah.arr y98),.agg #[.string (⟨#[]⟩),i6 ((-70) - (k2:Int)),i6 0,i6 0,i6 0,i6 0,.slice none 0 0,.slice none 0 0]] (some 144) (.bool true) (fun w107 hw107=>pm_yes w107 y98 k2 (by omega) (he97.ext (hw107.ext rfl) (fun _ h=>h)) hxpy98) (fun n108 (hn109:n81+1≤n108) => ?_)
  refine Di 6 0 [0] [[o0,o0]] [] [(EL z),(EO z),(106,Ad k2),(11,Ad k2),(146,.bool false)] rfl Ae ?_
  obtain⟨b110,o111,ha112,hF114,hc113⟩:=(hR.Ac).1.all (show 0<R.Ac.xs.length by omega)
  replace ha112:R.Ac.a=some ⟨b110,o111,none⟩:=ha112
  have hc115:=hc113 (c.Ac.xs.length+k2) (show c.Ac.xs.length+k2<R.Ac.xs.length by omega)
  have he116:=(hR.Ac).2 (c.Ac.xs.length+k2) (show c.Ac.xs.length+k2<R.Ac.xs.length by omega)
  obtain⟨y117,hy117⟩:∃ y_,y_=gd R.Ac.xs (c.Ac.xs.length+k2):=⟨_,rfl⟩
  rw[←hy117]at he116 hc115
  have hpey117:y117=GY k2:=by rw[hy117,hI.hh];exact U0 rfl (by omega)
  refine A8 9 0 [0] [[o0,(Du 2 b110 o111 R.Ac),o0,(a1 3),o0,o0,(ov (i6 ((c.Ac.xs.length+k2:Nat):Int))),(oi (c.Ac.xs.length+k2)),(ol 0 (Aw.arr y117)),o0,(ov (i6 ((-70) - (k2:Int)))),o0,⟨.seq true,none⟩],[(ov (i6 ((k2+1:Nat):Int))),o0]] [Qb (z+1),Df b110 o111 R.Ac,Qb (z+2),Wr ((c.Ac.xs.length:Int)+(k2:Int)) (((c.Ac.xs.length+k2:Nat):Int)),(((c.Ac.xs.length+k2:Nat):Int):Int)=((c.Ac.xs.length+k2:Nat):Int),c.Ac.xs.length+k2<R.Ac.xs.length,Bq,Eh w b110 (o111+((c.Ac.xs.length+k2)*3)) (Aw.arr y117),Wr ((-70:Int) - (k2:Int)) ((-70) - (k2:Int)),((y117.Kind:Int)==((-70) - (k2:Int):Int)&&((y117.Words:Int)==(0:Int)&&((y117.CS:Int)==(0:Int)&&true)))=true,Wr ((k2:Int)+1) (((k2+1:Nat):Int))] [(EL z),(EO z),(106,i6 ((k2+1:Nat):Int))] rfl ⟨rfl,Dh ha112,rfl,Be,rfl,(by omega),rfl,CB hc115,Be,(by rw[hpey117];simp[Gh,GY]),Be,Ae⟩ ?_
  refine BO [0,1,2,3] [(Ak w),(Ko z C),(KF z R),(Ky z c)] rfl rfl ?_
  refine Dp [4,5,106] [(EL z),(EO z),(106,i6 ((k2+1:Nat):Int))] ?_
  refine Bz (fun a w' hs=>⟨12 - (k2+1),by omega,n108,(k2+1),rfl,by omega,by omega,hs⟩)
 refine A8 15 0 [0] [[oF],[o0]] [BF ((k2:Int)<12)] [(6,.bool true)] rfl ⟨bf,Ae⟩ ?_
 refine AZ [] [] (.bool true) Ae ?_
 intro w118 hw118
 exact⟨rfl,Bg hw118⟩
theorem rof_no(w:World)(c:Af)(hc:Af.ok Any w c)(hok:BZ c=false):Calls Try.prog 5 #[.agg (Af.arr c)] w fun e w'=>e = .returned (.tuple #[.agg #[.int .i64 0,.slice none 0 0,.slice none 0 0,.int .i64 0],.int .i64 150])∧BN (fun _=>False) w w':=by
 obtain⟨z,hz⟩:∃ z,z=w.heap.size:=⟨_,rfl⟩
 refine BV (args:=[.agg (Af.arr c)]) 190 ⟨w,z,[(Ak w)]⟩ Try.func5 rfl (by kernel_rfl) (by kernel_rfl) (Fv hz) ?_
 refine Eb [0] [(0,.agg (Af.arr c))] ?_
 refine q_c 7 1 [] [[o0,o0,o0],[(an 7 1)]] [Qb z,Qb z,Qb z,Qb z,Qb z,Qb z,Qb z] [(1,pt z),(2,pt (z+1)),(14,.agg (Af.arr c))] ⟨w,z+2,[(Ak w),(bk z (Af.arr c) 26),(bk (z+1) #[i6 0,.slice none 0 0,.slice none 0 0,i6 0] 31)]⟩ rfl ⟨rfl,rfl,rfl,rfl,rfl,rfl,rfl,Ae⟩ ?_
 refine H5 15 #[.agg (Af.arr c)] (some 15) (.bool false) (fun w1 hw1=>Zf w1 c (hc.ext (hw1.ext rfl) (fun _ h=>h)) hok) (fun n2 (hn3:z+2≤n2) => ?_)
 refine Di 8 0 [1] [[o0],[o0,(an 4 2),o0]] [Qb (z+1),Qb (z+1),Qb (z+1),Qb (z+1)] [(2,pt (z+1)),(3,i6 150)] rfl ⟨rfl,rfl,rfl,rfl,Ae⟩ ?_
 refine AZ [.at 2,.at 2,.at 2,.at 2] [Qb (z+1),Qb (z+1),Qb (z+1),Qb (z+1)] (.tuple #[.agg #[i6 0,.slice none 0 0,.slice none 0 0,i6 0],i6 150]) ⟨rfl,rfl,rfl,rfl,Ae⟩ ?_
 intro w4 hw4
 exact⟨rfl,Bg hw4⟩
section
variable (b7:Nat)(c:Af)(mm b5:Nat)(b6 n14:Nat)(n2 n20 n24:Nat)(y49:Ap)(n8 n16:Nat)(n10 n40 z:Nat)(csG:List Aq)(y62:Aq)(ax63:Option Addr)(cp64:Nat)(psG:List Aj)(y68:Aj)(ax70:Option Addr)(cp71 b42:Nat)(o43 cp38:Nat)(ax37:Option Addr)(w:World)(k:Nat)
abbrev Ea:=bk b7 #[i6 ((AY c mm).bar),.slice (some ⟨b5,0,none⟩) c.Aa.xs.length c.Aa.xs.length,.slice (some ⟨b6,0,none⟩) c.Ac.xs.length c.Ac.xs.length,i6 0] 31
abbrev Y1:=bk n14 #[i6 0,.slice (some ⟨n14+1,0,none⟩) c.Aa.xs.length c.Aa.xs.length,.slice (some ⟨n2,0,none⟩) c.Ac.xs.length c.Ac.xs.length,i6 0] 31
abbrev XZ:=bk n2 #[i6 0,.slice (some ⟨n2+1,0,none⟩) c.Aa.xs.length c.Aa.xs.length,.slice (some ⟨n20,0,none⟩) c.Ac.xs.length c.Ac.xs.length,i6 0] 31
abbrev YC:=bk n2 #[i6 0,.slice (some ⟨n24,0,none⟩) c.Aa.xs.length c.Aa.xs.length,.slice (some ⟨n2+1,0,none⟩) c.Ac.xs.length c.Ac.xs.length,i6 0] 31
abbrev Tf:=bk b7 #[i6 y49.At,.slice (some ⟨b5,0,none⟩) c.Aa.xs.length c.Aa.xs.length,.slice (some ⟨b6,0,none⟩) c.Ac.xs.length c.Ac.xs.length,i6 0] 31
abbrev Yp:=bk n8 #[i6 0,.slice (some ⟨n2,0,none⟩) c.Aa.xs.length c.Aa.xs.length,.slice (some ⟨n8+1,0,none⟩) c.Ac.xs.length c.Ac.xs.length,i6 0] 31
abbrev Y0:=bk n16 #[i6 0,.slice (some ⟨n14,0,none⟩) c.Aa.xs.length c.Aa.xs.length,.slice (some ⟨n2,0,none⟩) c.Ac.xs.length c.Ac.xs.length,i6 0] 31
abbrev qo29_7:=bk n10 #[i6 0,.slice (some ⟨n2,0,none⟩) c.Aa.xs.length c.Aa.xs.length,.slice (some ⟨n8,0,none⟩) c.Ac.xs.length c.Ac.xs.length,i6 0] 31
abbrev GI:=bk b7 #[i6 0,.slice (some ⟨b5,0,none⟩) c.Aa.xs.length c.Aa.xs.length,.slice (some ⟨b6,0,none⟩) c.Ac.xs.length c.Ac.xs.length,i6 0] 31
abbrev UC:=bk (n40+1) #[i6 y49.Au.Index,i6 y49.Au.Port,i6 y49.At] 71
abbrev BD:=bk (z+1) #[i6 0,.slice none 0 0,.slice none 0 0,i6 0] 31
abbrev Hz:=bk n40 (Ap.arr y49) 66
abbrev BC:=bk z (Af.arr c) 26
abbrev Sm:=AV z 62 5 Aq.cells (.slice (some ⟨b6,0,none⟩) c.Ac.xs.length c.Ac.xs.length) (csG.set (((AY c mm).ch).toNat) (⟨y62.Lock,y62.Gw,y62.Partition,y62.Port,(⟨ax63,cp64,(y62.AX.xs++[(⟨y49.Au.Index,y49.Au.Port,y49.At⟩:AL)])⟩:Sl AL)⟩:Aq))
abbrev SG:=AV z 69 5 Aj.cells (.slice (some ⟨b5,0,none⟩) c.Aa.xs.length c.Aa.xs.length) (psG.set ((y49.Au.Index).toNat) (⟨y68.Lock,y68.Fh,y68.State,y68.Root,(⟨ax70,cp71,(y68.Tables.xs++[y49.At / 16])⟩:Sl Int)⟩:Aj))
abbrev Xq:=AV z 69 5 Aj.cells (.slice (some ⟨n14+1,0,none⟩) c.Aa.xs.length c.Aa.xs.length) (List.replicate c.Aa.xs.length (⟨0,0,0,0,(⟨none,0,[]⟩:Sl Int)⟩:Aj))
abbrev WV:=AV z 69 5 Aj.cells (.slice (some ⟨n2+1,0,none⟩) c.Aa.xs.length c.Aa.xs.length) (List.replicate c.Aa.xs.length (⟨0,0,0,0,(⟨none,0,[]⟩:Sl Int)⟩:Aj))
abbrev WP:=AV z 62 5 Aq.cells (.slice (some ⟨n8+1,0,none⟩) c.Ac.xs.length c.Ac.xs.length) (List.replicate c.Ac.xs.length (⟨0,0,0,0,(⟨none,0,[]⟩:Sl AL)⟩:Aq))
abbrev UG:=AV z 69 5 Aj.cells (.slice (some ⟨n14,0,none⟩) c.Aa.xs.length c.Aa.xs.length) (List.replicate c.Aa.xs.length (⟨0,0,0,0,(⟨none,0,[]⟩:Sl Int)⟩:Aj))
abbrev Xi:=AV z 62 5 Aq.cells (.slice (some ⟨n2+1,0,none⟩) c.Ac.xs.length c.Ac.xs.length) (List.replicate c.Ac.xs.length (⟨0,0,0,0,(⟨none,0,[]⟩:Sl AL)⟩:Aq))
abbrev WU:=AV z 69 5 Aj.cells (.slice (some ⟨n24,0,none⟩) c.Aa.xs.length c.Aa.xs.length) (List.replicate c.Aa.xs.length (⟨0,0,0,0,(⟨none,0,[]⟩:Sl Int)⟩:Aj))
abbrev Qz:=AV z 69 5 Aj.cells (.slice (some ⟨n2,0,none⟩) c.Aa.xs.length c.Aa.xs.length) (List.replicate c.Aa.xs.length (⟨0,0,0,0,(⟨none,0,[]⟩:Sl Int)⟩:Aj))
abbrev FM:=AV z 69 5 Aj.cells (.slice (some ⟨b5,0,none⟩) c.Aa.xs.length c.Aa.xs.length) (List.replicate c.Aa.xs.length (⟨0,0,0,0,(⟨none,0,[]⟩:Sl Int)⟩:Aj))
abbrev WQ:=AV z 62 5 Aq.cells (.slice (some ⟨n20,0,none⟩) c.Ac.xs.length c.Ac.xs.length) (List.replicate c.Ac.xs.length (⟨0,0,0,0,(⟨none,0,[]⟩:Sl AL)⟩:Aq))
abbrev Zj:=AV z 62 5 Aq.cells (.slice (some ⟨n8,0,none⟩) c.Ac.xs.length c.Ac.xs.length) (List.replicate c.Ac.xs.length (⟨0,0,0,0,(⟨none,0,[]⟩:Sl AL)⟩:Aq))
abbrev OD:=AV z 62 5 Aq.cells (.slice (some ⟨n2,0,none⟩) c.Ac.xs.length c.Ac.xs.length) (List.replicate c.Ac.xs.length (⟨0,0,0,0,(⟨none,0,[]⟩:Sl AL)⟩:Aq))
abbrev Tm:=AA z 3 1 (fun x:Int=>[i6 x]) ((psG.map Aj.Tables).eraseIdx ((y49.Au.Index).toNat))
abbrev D7:=AV z 69 5 Aj.cells (.slice (some ⟨b5,0,none⟩) c.Aa.xs.length c.Aa.xs.length) psG
abbrev D6:=AV z 62 5 Aq.cells (.slice (some ⟨b6,0,none⟩) c.Ac.xs.length c.Ac.xs.length) csG
abbrev Tv:=AA z 71 3 AL.cells ((csG.map Aq.AX).eraseIdx (((AY c mm).ch).toNat))
abbrev DL:=AA z 3 1 (fun x:Int=>[i6 x]) (psG.map Aj.Tables)
abbrev DK:=AA z 71 3 AL.cells (csG.map Aq.AX)
abbrev Zi:Dq:=(26,.agg #[i6 0,.slice (some ⟨n14,0,none⟩) c.Aa.xs.length c.Aa.xs.length,.slice (some ⟨n2,0,none⟩) c.Ac.xs.length c.Ac.xs.length,i6 0])
abbrev Zh:Dq:=(26,.agg #[i6 0,.slice (some ⟨n2,0,none⟩) c.Aa.xs.length c.Aa.xs.length,.slice (some ⟨n8,0,none⟩) c.Ac.xs.length c.Ac.xs.length,i6 0])
abbrev SC:Dq:=(168,.slice (some ⟨b5,0,none⟩) c.Aa.xs.length c.Aa.xs.length)
abbrev UM:Dq:=(21,.slice (some ⟨n2,0,none⟩) c.Aa.xs.length c.Aa.xs.length)
abbrev Ti:Dq:=(131,.slice (some ⟨b6,0,none⟩) c.Ac.xs.length c.Ac.xs.length)
abbrev Vd:Dq:=(25,.slice (some ⟨n2,0,none⟩) c.Ac.xs.length c.Ac.xs.length)
abbrev CG:Dq:=(9,.slice (some ⟨b42,o43,none⟩) ((AU c).length) cp38)
abbrev Q4:=(20,Ad c.Aa.xs.length)
abbrev Q9:=(24,Ad c.Ac.xs.length)
abbrev EN:=(29,Ad c.Ac.xs.length)
abbrev BG:=(58,i6 (((AU c).length:Nat):Int))
abbrev Et:Dq:=(9,.slice ax37 ((AU c).length) cp38)
abbrev DR:=(59,i6 ((mm+1:Nat):Int))
abbrev AP:=(2,pt (z+1))
abbrev FI:=(12,pt n40)
abbrev BQ:=(10,i6 (y49.At+y49.Size))
abbrev L8:=(4,pt n2)
abbrev Bl:=(4,pt b7)
abbrev FN:=[(Ak w),(BC c z),(BD z),(FM c b5 z),(AV z 62 5 Aq.cells (.slice (some ⟨b6,0,none⟩) c.Ac.xs.length c.Ac.xs.length) (Ns c k)),(GI b7 c b5 b6)]
abbrev Xd:=[(Ak w),(BC c z),(BD z),(Qz c n2 z),(Zj c n8 z),(qo29_7 c n2 n8 n10)]
end
theorem Zg(w:World)(c:Af)(hc:Af.ok Any w c)(hok:BZ c=true):Calls Try.prog 5 #[.agg (Af.arr c)] w fun e w'=>∃ L:Bj,e = .returned (.tuple #[.agg (Bj.arr L),.int .i64 0])∧Lm c L∧Bj.ok (New w.heap.size) w' L∧Og w.heap.size w' L∧BN (fun _=>False) w w':=by
 obtain⟨z,hz⟩:∃ z,z=w.heap.size:=⟨_,rfl⟩
 refine BV (args:=[.agg (Af.arr c)]) 190 ⟨w,z,[(Ak w)]⟩ Try.func5 rfl (by kernel_rfl) (by kernel_rfl) (Fv hz) ?_
 have hfine:=MW hok;have hkn:=hfine.kn;have hpn:=hfine.pn;have hcn:=hfine.cn
 refine Eb [0] [(0,.agg (Af.arr c))] ?_
 refine q_c 7 1 [] [[o0,o0,o0],[(an 7 1)]] [Qb z,Qb z,Qb z,Qb z,Qb z,Qb z,Qb z] [(1,pt z),(AP z),(14,.agg (Af.arr c))] ⟨w,z+2,[(Ak w),(BC c z),(BD z)]⟩ rfl ⟨rfl,rfl,rfl,rfl,rfl,rfl,rfl,Ae⟩ ?_
 refine H5 15 #[.agg (Af.arr c)] (some 15) (.bool true) (fun w1 hw1=>Yd w1 c (hc.ext (hw1.ext rfl) (fun _ h=>h)) hok) (fun n2 (hn3:z+2≤n2) => ?_)
 refine Di 6 0 [0] [[o0]] [] [(1,pt z),(AP z),(16,.bool false)] rfl Ae ?_
 refine Fp 10 [0,1,2] [(Ak w),(BC c z),(BD z)] rfl rfl ?_
 refine CU [(0,o0),(1,(a1 1)),(2,o0),(4,o0),(5,(a1 1)),(6,o0)] [1,2,20,24] [Qb z,Qb z] [true,true,true,false,true,true,true,false,false,false,false] [(1,pt z),(AP z),(Q4 c),(Q9 c)] ⟨rfl,rfl,Ae⟩ ?_
 refine ZK (fun x:{p:Nat×Nat×Nat×Nat // n2≤p.1∧n2≤p.2.1∧n2≤p.2.2.1∧n2≤p.2.2.2}=>([(1,pt z),(AP z),(4,pt x.1.2.2.2)],⟨w,x.1.1,[(Ak w),(BC c z),(BD z),(AV z 69 5 Aj.cells (.slice (some ⟨x.1.2.1,0,none⟩) c.Aa.xs.length c.Aa.xs.length) (List.replicate c.Aa.xs.length (⟨0,0,0,0,(⟨none,0,[]⟩:Sl Int)⟩:Aj))),(AV z 62 5 Aq.cells (.slice (some ⟨x.1.2.2.1,0,none⟩) c.Ac.xs.length c.Ac.xs.length) (List.replicate c.Ac.xs.length (⟨0,0,0,0,(⟨none,0,[]⟩:Sl AL)⟩:Aq))),(.blk x.1.2.2.2 (.cells #[i6 0,.slice (some ⟨x.1.2.1,0,none⟩) c.Aa.xs.length c.Aa.xs.length,.slice (some ⟨x.1.2.2.1,0,none⟩) c.Ac.xs.length c.Ac.xs.length,i6 0] 31 (0,0)) true)]⟩)) (fun hK => ?_) ?_
 ·refine Rk [3,7,9] ?_
  refine List.forall_mem_cons.2 ⟨?_,List.forall_mem_cons.2 ⟨?_,List.forall_mem_cons.2 ⟨?_,fun _ h=>absurd h List.not_mem_nil⟩⟩⟩
  ·refine Np z c.Aa.xs.length (⟨0,0,0,0,(⟨none,0,[]⟩:Sl Int)⟩:Aj) Aj.cells 69 5 56 (.agg #[i6 0,i6 0,i6 0,i6 0,.slice none 0 0]) (c.Aa.xs.length:Int) (c.Aa.xs.length:Int) (some 21) [0,1,2] rfl rfl (by omega) (show z≤n2 by omega) (.inr rfl) (fun n8 (hn9:n2+1≤n8) => ?_)
   refine DV [1,2,24,21] [(1,pt z),(AP z),(Q9 c),(UM c n2)] ?_
   refine Rk [7,9] ?_
   refine List.forall_mem_cons.2 ⟨?_,List.forall_mem_cons.2 ⟨?_,fun _ h=>absurd h List.not_mem_nil⟩⟩
   ·refine Np z c.Ac.xs.length (⟨0,0,0,0,(⟨none,0,[]⟩:Sl AL)⟩:Aq) Aq.cells 62 5 56 (.agg #[i6 0,i6 0,i6 0,i6 0,.slice none 0 0]) (c.Ac.xs.length:Int) (c.Ac.xs.length:Int) (some 25) [0,1,2] rfl rfl (by omega) (show z≤n8 by omega) (.inr rfl) (fun n10 (hn11:n8+1≤n10) => ?_)
    refine DV [1,2,21,25] [(1,pt z),(AP z),(UM c n2),(25,.slice (some ⟨n8,0,none⟩) c.Ac.xs.length c.Ac.xs.length)] ?_
    refine CU [(8,o0)] [1,2,26] [] (Ed 9 2) [(1,pt z),(AP z),(Zh c n2 n8)] Ae ?_
    refine CX 9 ?_
    refine EJ o0 [1,2,26,4] [] [(1,pt z),(AP z),(Zh c n2 n8),(4,pt n10)] ⟨w,n10+1,[(Ak w),(BC c z),(BD z),(Qz c n2 z),(Zj c n8 z),(bk n10 #[i6 0,.slice none 0 0,.slice none 0 0,i6 0] 31)]⟩ [0,1,2] Ae (.inr rfl) ?_
    refine CX 10 ?_
    refine EJ (an 4 5) [1,2,4] [Qb n10,Qb n10,Qb n10,Qb n10] [(1,pt z),(AP z),(4,pt n10)] ⟨w,n10+1,(Xd c n2 n8 n10 z w)⟩ [] ⟨rfl,rfl,rfl,rfl,Ae⟩ (.inl rfl) ?_
    refine IA 11 [0,1,2,3,4,5] (Xd c n2 n8 n10 z w) rfl rfl ?_
    refine D9 ?_
    refine Dp [1,2,4] [(1,pt z),(AP z),(4,pt n10)] ?_
    refine BO [0,1,2,3,4,5] (Xd c n2 n8 n10 z w) rfl rfl ?_
    exact hK ⟨(n10+1,n2,n8,n10),by first | omega | (dsimp only;omega)⟩
   refine EJ o0 [1,2,24,21,4] [] [(1,pt z),(AP z),(Q9 c),(UM c n2),(4,pt n8)] ⟨w,n8+1,[(Ak w),(BC c z),(BD z),(Qz c n2 z),(bk n8 #[i6 0,.slice none 0 0,.slice none 0 0,i6 0] 31)]⟩ [0,1,2] Ae (.inr rfl) ?_
   refine CX 7 ?_
   refine Np z c.Ac.xs.length (⟨0,0,0,0,(⟨none,0,[]⟩:Sl AL)⟩:Aq) Aq.cells 62 5 56 (.agg #[i6 0,i6 0,i6 0,i6 0,.slice none 0 0]) (c.Ac.xs.length:Int) (c.Ac.xs.length:Int) (some 25) [0,1,2] rfl rfl (by omega) (show z≤n8+1 by omega) (.inr rfl) (fun n12 (hn13:n8+1+1≤n12) => ?_)
   refine DV [1,2,21,4,25] [(1,pt z),(AP z),(UM c n2),(4,pt n8),(25,.slice (some ⟨n8+1,0,none⟩) c.Ac.xs.length c.Ac.xs.length)] ?_
   refine CU [(8,o0)] [1,2,4,26] [] (Ed 10 1) [(1,pt z),(AP z),(4,pt n8),(26,.agg #[i6 0,.slice (some ⟨n2,0,none⟩) c.Aa.xs.length c.Aa.xs.length,.slice (some ⟨n8+1,0,none⟩) c.Ac.xs.length c.Ac.xs.length,i6 0])] Ae ?_
   refine CX 10 ?_
   refine EJ (an 4 4) [1,2,4] [Qb n8,Qb n8,Qb n8,Qb n8] [(1,pt z),(AP z),(4,pt n8)] ⟨w,n12,[(Ak w),(BC c z),(BD z),(Qz c n2 z),(Yp c n2 n8),(WP c n8 z)]⟩ [] ⟨rfl,rfl,rfl,rfl,Ae⟩ (.inl rfl) ?_
   refine IA 11 [0,1,2,3,4,5] [(Ak w),(BC c z),(BD z),(Qz c n2 z),(Yp c n2 n8),(WP c n8 z)] rfl rfl ?_
   refine D9 ?_
   refine Dp [1,2,4] [(1,pt z),(AP z),(4,pt n8)] ?_
   refine BO [0,1,2,3,5,4] [(Ak w),(BC c z),(BD z),(Qz c n2 z),(WP c n8 z),(Yp c n2 n8)] rfl rfl ?_
   exact hK ⟨(n12,n2,n8+1,n8),by first | omega | (dsimp only;omega)⟩
  ·refine Np z c.Ac.xs.length (⟨0,0,0,0,(⟨none,0,[]⟩:Sl AL)⟩:Aq) Aq.cells 62 5 56 (.agg #[i6 0,i6 0,i6 0,i6 0,.slice none 0 0]) (c.Ac.xs.length:Int) (c.Ac.xs.length:Int) (some 25) [0,1,2] rfl rfl (by omega) (show z≤n2 by omega) (.inr rfl) (fun n14 (hn15:n2+1≤n14) => ?_)
   refine DV [1,2,20,25] [(1,pt z),(AP z),(Q4 c),(Vd c n2)] ?_
   refine Rk [3,9] ?_
   refine List.forall_mem_cons.2 ⟨?_,List.forall_mem_cons.2 ⟨?_,fun _ h=>absurd h List.not_mem_nil⟩⟩
   ·refine Np z c.Aa.xs.length (⟨0,0,0,0,(⟨none,0,[]⟩:Sl Int)⟩:Aj) Aj.cells 69 5 56 (.agg #[i6 0,i6 0,i6 0,i6 0,.slice none 0 0]) (c.Aa.xs.length:Int) (c.Aa.xs.length:Int) (some 21) [0,1,2] rfl rfl (by omega) (show z≤n14 by omega) (.inr rfl) (fun n16 (hn17:n14+1≤n16) => ?_)
    refine DV [1,2,25,21] [(1,pt z),(AP z),(Vd c n2),(21,.slice (some ⟨n14,0,none⟩) c.Aa.xs.length c.Aa.xs.length)] ?_
    refine CU [(8,o0)] [1,2,26] [] (Ed 9 2) [(1,pt z),(AP z),(Zi c n14 n2)] Ae ?_
    refine CX 9 ?_
    refine EJ o0 [1,2,26,4] [] [(1,pt z),(AP z),(Zi c n14 n2),(4,pt n16)] ⟨w,n16+1,[(Ak w),(BC c z),(BD z),(OD c n2 z),(UG c n14 z),(bk n16 #[i6 0,.slice none 0 0,.slice none 0 0,i6 0] 31)]⟩ [0,1,2] Ae (.inr rfl) ?_
    refine CX 10 ?_
    refine EJ (an 4 5) [1,2,4] [Qb n16,Qb n16,Qb n16,Qb n16] [(1,pt z),(AP z),(4,pt n16)] ⟨w,n16+1,[(Ak w),(BC c z),(BD z),(OD c n2 z),(UG c n14 z),(Y0 c n14 n2 n16)]⟩ [] ⟨rfl,rfl,rfl,rfl,Ae⟩ (.inl rfl) ?_
    refine IA 11 [0,1,2,3,4,5] [(Ak w),(BC c z),(BD z),(OD c n2 z),(UG c n14 z),(Y0 c n14 n2 n16)] rfl rfl ?_
    refine D9 ?_
    refine Dp [1,2,4] [(1,pt z),(AP z),(4,pt n16)] ?_
    refine BO [0,1,2,4,3,5] [(Ak w),(BC c z),(BD z),(UG c n14 z),(OD c n2 z),(Y0 c n14 n2 n16)] rfl rfl ?_
    exact hK ⟨(n16+1,n14,n2,n16),by first | omega | (dsimp only;omega)⟩
   refine EJ o0 [1,2,20,25,4] [] [(1,pt z),(AP z),(Q4 c),(Vd c n2),(4,pt n14)] ⟨w,n14+1,[(Ak w),(BC c z),(BD z),(OD c n2 z),(bk n14 #[i6 0,.slice none 0 0,.slice none 0 0,i6 0] 31)]⟩ [0,1,2] Ae (.inr rfl) ?_
   refine CX 3 ?_
   refine Np z c.Aa.xs.length (⟨0,0,0,0,(⟨none,0,[]⟩:Sl Int)⟩:Aj) Aj.cells 69 5 56 (.agg #[i6 0,i6 0,i6 0,i6 0,.slice none 0 0]) (c.Aa.xs.length:Int) (c.Aa.xs.length:Int) (some 21) [0,1,2] rfl rfl (by omega) (show z≤n14+1 by omega) (.inr rfl) (fun n18 (hn19:n14+1+1≤n18) => ?_)
   refine DV [1,2,25,4,21] [(1,pt z),(AP z),(Vd c n2),(4,pt n14),(21,.slice (some ⟨n14+1,0,none⟩) c.Aa.xs.length c.Aa.xs.length)] ?_
   refine CU [(8,o0)] [1,2,4,26] [] (Ed 10 1) [(1,pt z),(AP z),(4,pt n14),(26,.agg #[i6 0,.slice (some ⟨n14+1,0,none⟩) c.Aa.xs.length c.Aa.xs.length,.slice (some ⟨n2,0,none⟩) c.Ac.xs.length c.Ac.xs.length,i6 0])] Ae ?_
   refine CX 10 ?_
   refine EJ (an 4 4) [1,2,4] [Qb n14,Qb n14,Qb n14,Qb n14] [(1,pt z),(AP z),(4,pt n14)] ⟨w,n18,[(Ak w),(BC c z),(BD z),(OD c n2 z),(Y1 c n14 n2),(Xq c n14 z)]⟩ [] ⟨rfl,rfl,rfl,rfl,Ae⟩ (.inl rfl) ?_
   refine IA 11 [0,1,2,3,4,5] [(Ak w),(BC c z),(BD z),(OD c n2 z),(Y1 c n14 n2),(Xq c n14 z)] rfl rfl ?_
   refine D9 ?_
   refine Dp [1,2,4] [(1,pt z),(AP z),(4,pt n14)] ?_
   refine BO [0,1,2,5,3,4] [(Ak w),(BC c z),(BD z),(Xq c n14 z),(OD c n2 z),(Y1 c n14 n2)] rfl rfl ?_
   exact hK ⟨(n18,n14+1,n2,n14),by first | omega | (dsimp only;omega)⟩
  refine EJ o0 [1,2,20,24,4] [] [(1,pt z),(AP z),(Q4 c),(Q9 c),(L8 n2)] ⟨w,n2+1,[(Ak w),(BC c z),(BD z),(bk n2 #[i6 0,.slice none 0 0,.slice none 0 0,i6 0] 31)]⟩ [0,1,2] Ae (.inr rfl) ?_
  refine Rk [3,7] ?_
  refine List.forall_mem_cons.2 ⟨?_,List.forall_mem_cons.2 ⟨?_,fun _ h=>absurd h List.not_mem_nil⟩⟩
  ·refine Np z c.Aa.xs.length (⟨0,0,0,0,(⟨none,0,[]⟩:Sl Int)⟩:Aj) Aj.cells 69 5 56 (.agg #[i6 0,i6 0,i6 0,i6 0,.slice none 0 0]) (c.Aa.xs.length:Int) (c.Aa.xs.length:Int) (some 21) [0,1,2] rfl rfl (by omega) (show z≤n2+1 by omega) (.inr rfl) (fun n20 (hn21:n2+1+1≤n20) => ?_)
   refine DV [1,2,24,4,21] [(1,pt z),(AP z),(Q9 c),(L8 n2),(21,.slice (some ⟨n2+1,0,none⟩) c.Aa.xs.length c.Aa.xs.length)] ?_
   refine CX 7 ?_
   refine Np z c.Ac.xs.length (⟨0,0,0,0,(⟨none,0,[]⟩:Sl AL)⟩:Aq) Aq.cells 62 5 56 (.agg #[i6 0,i6 0,i6 0,i6 0,.slice none 0 0]) (c.Ac.xs.length:Int) (c.Ac.xs.length:Int) (some 25) [0,1,2] rfl rfl (by omega) (show z≤n20 by omega) (.inr rfl) (fun n22 (hn23:n20+1≤n22) => ?_)
   refine DV [1,2,4,21,25] [(1,pt z),(AP z),(L8 n2),(21,.slice (some ⟨n2+1,0,none⟩) c.Aa.xs.length c.Aa.xs.length),(25,.slice (some ⟨n20,0,none⟩) c.Ac.xs.length c.Ac.xs.length)] ?_
   refine CU [(8,o0)] [1,2,4,26] [] (Ed 10 1) [(1,pt z),(AP z),(L8 n2),(26,.agg #[i6 0,.slice (some ⟨n2+1,0,none⟩) c.Aa.xs.length c.Aa.xs.length,.slice (some ⟨n20,0,none⟩) c.Ac.xs.length c.Ac.xs.length,i6 0])] Ae ?_
   refine CX 10 ?_
   refine EJ (an 4 3) [1,2,4] [Qb n2,Qb n2,Qb n2,Qb n2] [(1,pt z),(AP z),(L8 n2)] ⟨w,n22,[(Ak w),(BC c z),(BD z),(XZ c n2 n20),(WV c n2 z),(WQ c n20 z)]⟩ [] ⟨rfl,rfl,rfl,rfl,Ae⟩ (.inl rfl) ?_
   refine IA 11 [0,1,2,3,4,5] [(Ak w),(BC c z),(BD z),(XZ c n2 n20),(WV c n2 z),(WQ c n20 z)] rfl rfl ?_
   refine D9 ?_
   refine Dp [1,2,4] [(1,pt z),(AP z),(L8 n2)] ?_
   refine BO [0,1,2,4,5,3] [(Ak w),(BC c z),(BD z),(WV c n2 z),(WQ c n20 z),(XZ c n2 n20)] rfl rfl ?_
   exact hK ⟨(n22,n2+1,n20,n2),by first | omega | (dsimp only;omega)⟩
  refine Np z c.Ac.xs.length (⟨0,0,0,0,(⟨none,0,[]⟩:Sl AL)⟩:Aq) Aq.cells 62 5 56 (.agg #[i6 0,i6 0,i6 0,i6 0,.slice none 0 0]) (c.Ac.xs.length:Int) (c.Ac.xs.length:Int) (some 25) [0,1,2] rfl rfl (by omega) (show z≤n2+1 by omega) (.inr rfl) (fun n24 (hn25:n2+1+1≤n24) => ?_)
  refine DV [1,2,20,4,25] [(1,pt z),(AP z),(Q4 c),(L8 n2),(25,.slice (some ⟨n2+1,0,none⟩) c.Ac.xs.length c.Ac.xs.length)] ?_
  refine CX 3 ?_
  refine Np z c.Aa.xs.length (⟨0,0,0,0,(⟨none,0,[]⟩:Sl Int)⟩:Aj) Aj.cells 69 5 56 (.agg #[i6 0,i6 0,i6 0,i6 0,.slice none 0 0]) (c.Aa.xs.length:Int) (c.Aa.xs.length:Int) (some 21) [0,1,2] rfl rfl (by omega) (show z≤n24 by omega) (.inr rfl) (fun n26 (hn27:n24+1≤n26) => ?_)
  refine DV [1,2,4,25,21] [(1,pt z),(AP z),(L8 n2),(25,.slice (some ⟨n2+1,0,none⟩) c.Ac.xs.length c.Ac.xs.length),(21,.slice (some ⟨n24,0,none⟩) c.Aa.xs.length c.Aa.xs.length)] ?_
  refine CU [(8,o0)] [1,2,4,26] [] (Ed 10 1) [(1,pt z),(AP z),(L8 n2),(26,.agg #[i6 0,.slice (some ⟨n24,0,none⟩) c.Aa.xs.length c.Aa.xs.length,.slice (some ⟨n2+1,0,none⟩) c.Ac.xs.length c.Ac.xs.length,i6 0])] Ae ?_
  refine CX 10 ?_
  refine EJ (an 4 3) [1,2,4] [Qb n2,Qb n2,Qb n2,Qb n2] [(1,pt z),(AP z),(L8 n2)] ⟨w,n26,[(Ak w),(BC c z),(BD z),(YC c n2 n24),(Xi c n2 z),(WU c n24 z)]⟩ [] ⟨rfl,rfl,rfl,rfl,Ae⟩ (.inl rfl) ?_
  refine IA 11 [0,1,2,3,4,5] [(Ak w),(BC c z),(BD z),(YC c n2 n24),(Xi c n2 z),(WU c n24 z)] rfl rfl ?_
  refine D9 ?_
  refine Dp [1,2,4] [(1,pt z),(AP z),(L8 n2)] ?_
  refine BO [0,1,2,5,4,3] [(Ak w),(BC c z),(BD z),(WU c n24 z),(Xi c n2 z),(YC c n2 n24)] rfl rfl ?_
  exact hK ⟨(n26,n24,n2+1,n2),by first | omega | (dsimp only;omega)⟩
 rintro⟨⟨n4,b5,b6,b7⟩,hJ28⟩
 simp only at hJ28
 show E _ _ [(1,pt z),(AP z),(Bl b7)] _ ⟨w,n4,[(Ak w),(BC c z),(BD z),(FM c b5 z),(AV z 62 5 Aq.cells (.slice (some ⟨b6,0,none⟩) c.Ac.xs.length c.Ac.xs.length) (List.replicate c.Ac.xs.length (⟨0,0,0,0,(⟨none,0,[]⟩:Sl AL)⟩:Aq))),(GI b7 c b5 b6)]⟩ _ _ _
 refine Ja 7 0 [] [[o0,(a1 1),o0,o0]] [Qb z] [(1,pt z),(AP z),(Bl b7),(EN c),(30,i6 0)] rfl ⟨rfl,Ae⟩ ?_
 refine Ce (fun m a w'=>∃ (n30:Nat) (k:Nat),m=c.Ac.xs.length - k∧n4≤n30∧(k≤c.Ac.xs.length)∧St 190 [(1,pt z),(AP z),(Bl b7),(EN c),(30,Ad k)] [] ⟨w,n30,(FN b7 c b5 b6 z w k)⟩ a w') (c.Ac.xs.length - 0) ?_ ?_
 ·intro a w' hs;exact⟨n4,0,rfl,Nat.le_refl _,Nat.zero_le _,by(try dsimp only[GI,BD,BC,FM,Q4,Q9,EN,AP,Bl,FN]at hs ⊢);rw[csUp_zero];exact hs⟩
 rintro m a w' ⟨n30,k,rfl,hn29,hkk,hs⟩
 refine(?_:G Try.prog 190 [(1,pt z),(AP z),(Bl b7),(EN c),(30,Ad k)] [] ⟨w,n30,(FN b7 c b5 b6 z w k)⟩ _ _ _) a w' hs
 clear hs a w'
 have hul:=Yv (c:=c) (k:=k)
 refine CP ?_
 by_cases h31:(k:Int)<(c.Ac.xs.length:Int)
 ·refine A8 15 2 [1] [[oT],[o0,o0],[(an 7 1),o0]] [BT ((k:Int)<(c.Ac.xs.length:Int)),Qb z,Qb z,Qb z,Qb z,Qb z,Qb z,Qb z] [(1,pt z),(AP z),(Bl b7),(EN c),(30,Ad k),(5,Ad k),(34,.agg (Af.arr c)),(35,Ad k)] rfl ⟨bt,rfl,rfl,rfl,rfl,rfl,rfl,rfl,Ae⟩ ?_
  refine H5 16 #[.agg (Af.arr c),Ad k] (some 36) (.tuple #[i6 ((gd (Ba c (k:Int) true) 0).partition),i6 ((gd (Ba c (k:Int) true) 0).port)]) (fun w32 hw32=>Yy w32 c (k:Int) (hc.ext (hw32.ext rfl) (fun _ h=>h))) (fun n33 (hn34:n30≤n33) => ?_)
  refine Di 4 6 [] [[o0,o0,o0,o0,o0],[o0,(a1 5),o0,o0,(oi k),o0]] [Qb b7,BI k,k<c.Ac.xs.length,Bq] [(1,pt z),(AP z),(Bl b7),(EN c),(30,Ad k),(5,Ad k),(7,i6 ((gd (Ba c (k:Int) true) 0).port)),(42,i6 ((gd (Ba c (k:Int) true) 0).partition)),(44,.pointer (some ⟨b6,0+EK 5 k+2,none⟩))] rfl ⟨rfl,rfl,(by omega),rfl,Ae⟩ ?_
  refine MI 4 k 2 (Ns c k) (⟨0,0,(gd (Ba c (k:Int) true) 0).partition,0,(⟨none,0,[]⟩:Sl AL)⟩:Aq) Aq.cells z 62 5 b6 c.Ac.xs.length c.Ac.xs.length (i6 ((gd (Ba c (k:Int) true) 0).partition)) none (by first | omega | (rw[List.length_set];omega)) (by rw[csUp_at (by omega)];rfl) ?_
  refine Di 3 6 [] [[],[o0,(a1 5),o0,o0,(oi k),o0]] [Qb b7,BI k,k<c.Ac.xs.length,Bq] [(1,pt z),(AP z),(Bl b7),(EN c),(30,Ad k),(48,i6 ((gd (Ba c (k:Int) true) 0).port)),(50,.pointer (some ⟨b6,0+EK 5 k+3,none⟩))] rfl ⟨rfl,rfl,(by omega),rfl,Ae⟩ ?_
  refine MI 4 k 3 ((Ns c k).set k (⟨0,0,(gd (Ba c (k:Int) true) 0).partition,0,(⟨none,0,[]⟩:Sl AL)⟩:Aq)) (⟨0,0,(gd (Ba c (k:Int) true) 0).partition,(gd (Ba c (k:Int) true) 0).port,(⟨none,0,[]⟩:Sl AL)⟩:Aq) Aq.cells z 62 5 b6 c.Ac.xs.length c.Ac.xs.length (i6 ((gd (Ba c (k:Int) true) 0).port)) none (by first | omega | (rw[List.length_set];omega)) (by rw[LG (by first | omega | (rw[List.length_set];omega))];rfl) ?_
  refine Di 5 0 [] [[],[(ov (i6 ((k+1:Nat):Int))),o0]] [Wr ((k:Int)+1) (((k+1:Nat):Int))] [(1,pt z),(AP z),(Bl b7),(EN c),(30,i6 ((k+1:Nat):Int))] rfl ⟨Be,Ae⟩ ?_
  refine Bz (fun a w' hs=>⟨c.Ac.xs.length - (k+1),by omega,n33,(k+1),rfl,by omega,by omega,by(try dsimp only[GI,BD,BC,FM,EN,AP,Bl,FN]at hs ⊢);rw[←csUp_succ];simp only[List.set_set]at hs;exact hs⟩)
 refine A8 16 1 [0] [[oF],[o0],[(an 7 1)]] [BF ((k:Int)<(c.Ac.xs.length:Int)),Qb z,Qb z,Qb z,Qb z,Qb z,Qb z,Qb z] [(1,pt z),(AP z),(Bl b7),(8,i6 0),(52,.agg (Af.arr c))] rfl ⟨bf,rfl,rfl,rfl,rfl,rfl,rfl,rfl,Ae⟩ ?_
 refine l_call [] [] 17 #[.agg (Af.arr c)] (some 53) Ae ?_
 intro w35 hw35
 refine(Ud w35 c (hc.ext (hw35.ext rfl) (fun _ h=>h)) hok).mono ?_
 rintro e w36 ⟨ax37,cp38,rfl,hSw36,hkw36⟩
 have hnw36:n30≤w36.heap.size:=Dx hw35 hkw36
 rw[hw35.size]at hSw36
 refine⟨_,_,rfl,hw35.Lc hkw36, ?_⟩
 refine Di 12 0 [] [[o0],[o0,(a1 1),(ov (i6 (16*c.Kernel))),o0],[o0,o0,o0]] [Qb z,Wr ((16:Int)*c.Kernel) (16*c.Kernel)] [(AP z),(Bl b7),(8,i6 0),(Et c cp38 ax37),(10,i6 (16*c.Kernel)),(BG c),(59,i6 0)] rfl ⟨rfl,Be,Ae⟩ ?_
 have hkc:k=c.Ac.xs.length:=by omega
 refine XX z 71 3 AL.cells c.Ac.xs.length ?_
 refine XX z 3 1 (fun x:Int=>[i6 x]) c.Aa.xs.length ?_
 refine Ce (fun m a w'=>∃ (n40:Nat) (mm:Nat) (psG:List Aj) (csG:List Aq),m=(AU c).length - mm∧w36.heap.size≤n40∧(mm≤(AU c).length)∧(psG.length=c.Aa.xs.length)∧(csG.length=c.Ac.xs.length)∧(psG.map nP=(AY c mm).ps)∧(csG.map nC=(AY c mm).cs)∧St 190 [(AP z),(Bl b7),(8,i6 ((AY c mm).ch)),(Et c cp38 ax37),(10,i6 ((AY c mm).fin)),(BG c),(59,Ad mm)] [] ⟨w,n40,[(Ak w),(BC c z),(BD z),(D7 c b5 z psG),(D6 c b6 z csG),(Ea b7 c mm b5 b6),(mid n30 w36),(DK z csG),(DL z psG)]⟩ a w') ((AU c).length - 0) ?_ ?_
 ·intro a w' hs;exact⟨w36.heap.size,0,(List.replicate c.Aa.xs.length (⟨0,0,0,0,(⟨none,0,[]⟩:Sl Int)⟩:Aj)),(Ns c k),rfl,Nat.le_refl _,Nat.zero_le _,List.length_replicate,Yv,(by rw[List.map_replicate];apply List.ext_getElem (by simp[AY,F0]);intro i h1 h2;simp[AY,F0,nP]),(by rw[hkc,csUp_all];show List.map nC ((List.range _).map (Qq c))=(List.range _).map (Qq c);rw[List.map_map];rfl),by(try dsimp only[Ea,GI,BD,BC,FM,D7,D6,DL,DK,EN,BG,Et,AP,Bl,FN]at hs ⊢);rw[csUp_nil,List.map_replicate];exact hs⟩
 rintro m a w' ⟨n40,mm,psG,csG,rfl,hn39,hkmm,hlp,hlc,hps,hcs,hs⟩
 refine(?_:G Try.prog 190 [(AP z),(Bl b7),(8,i6 ((AY c mm).ch)),(Et c cp38 ax37),(10,i6 ((AY c mm).fin)),(BG c),(59,Ad mm)] [] ⟨w,n40,[(Ak w),(BC c z),(BD z),(D7 c b5 z psG),(D6 c b6 z csG),(Ea b7 c mm b5 b6),(mid n30 w36),(DK z csG),(DL z psG)]⟩ _ _ _) a w' hs
 clear hs a w'
 have hpln:=pieces_len hfine
 have hch:=Xx hfine mm (by omega)
 have hfin:mm<(AU c).length∨((AY c mm).fin+16 - 1) / 16=C9 c c.Aa.xs.length:=if e:mm<(AU c).length then .inl e else .inr (by rw[show mm=(AU c).length by omega];exact(Wv hfine).2.2.2)
 have htb:=NG hfine c.Aa.xs.length (Nat.le_refl _)
 have htp:=Xe hfine c.Aa.xs.length
 refine CP ?_
 by_cases h41:(mm:Int)<(((AU c).length:Nat):Int)
 ·refine A8 14 0 [1] [[oT],[o0,o0]] [BT ((mm:Int)<(((AU c).length:Nat):Int))] [(AP z),(Bl b7),(8,i6 ((AY c mm).ch)),(Et c cp38 ax37),(BG c),(59,Ad mm),(11,Ad mm)] rfl ⟨bt,Ae⟩ ?_
  obtain⟨b42,o43,ha44,hF46,hc45⟩:=((⟨hSw36,WA hfine⟩:F8 Ap.cells 5 Ap.ok _ _ _)).1.all (show 0<(AU c).length by omega)
  replace ha44:ax37=some ⟨b42,o43,none⟩:=ha44
  refine IZ [(AP z),(Bl b7),(8,i6 ((AY c mm).ch)),(CG c b42 o43 cp38),(BG c),(59,Ad mm),(11,Ad mm)] (by(try dsimp only[Ea,GI,BD,BC,FM,D7,D6,DL,DK,CG,EN,BG,Et,AP,Bl,FN]);simp only[ha44]) ?_
  have hc47:=hc45 mm (show mm<(AU c).length by omega)
  have he48:=((⟨hSw36,WA hfine⟩:F8 Ap.cells 5 Ap.ok _ _ _)).2 mm (show mm<(AU c).length by omega)
  obtain⟨y49,hy49⟩:∃ y_,y_=gd (⟨ax37,cp38,AU c⟩:Sl Ap).xs mm:=⟨_,rfl⟩
  rw[←hy49]at he48 hc47
  have hPc:=Wj hfine (show mm<(AU c).length by omega);rw[←hy49]at hPc;unfold Rq at hPc
  refine q_c 17 0 [] [[o0,o0,(oi mm),(oa [.via 6 (i6 y49.At),.via 6 (i6 y49.Size),.via 6 (i6 y49.Au.Kind),.via 6 (i6 y49.Au.Index),.via 6 (i6 y49.Au.Port)]),o0,(an 5 9)],[o0,(a1 9),o0,(a1 9),(ov (i6 (y49.At+y49.Size))),o0],[o0,o0,(a1 9),o0],[o0,o0,(a1 9)]] [BI mm,mm<(AU c).length,Bq,∀ w',Ch.holds (mid n30 w36) w'→w'.cell? ⟨b42,o43+mm*5,none⟩=some (i6 y49.At),∀ w',Ch.holds (mid n30 w36) w'→w'.cell? ⟨b42,o43+mm*5+1,none⟩=some (i6 y49.Size),∀ w',Ch.holds (mid n30 w36) w'→w'.cell? ⟨b42,o43+mm*5+2,none⟩=some (i6 y49.Au.Kind),∀ w',Ch.holds (mid n30 w36) w'→w'.cell? ⟨b42,o43+mm*5+3,none⟩=some (i6 y49.Au.Index),∀ w',Ch.holds (mid n30 w36) w'→w'.cell? ⟨b42,o43+mm*5+4,none⟩=some (i6 y49.Au.Port),Qb n40,Qb n40,Qb n40,Qb n40,Qb n40,Qb n40,Qb n40,Wr ((y49.At:Int)+y49.Size) (y49.At+y49.Size),Qb n40,Qb n40] [(AP z),(Bl b7),(8,i6 ((AY c mm).ch)),(CG c b42 o43 cp38),(BG c),(59,Ad mm),(FI n40),(BQ y49),(13,i6 y49.Au.Index),(76,i6 y49.Au.Kind)] ⟨w,n40+1,[(Ak w),(BC c z),(BD z),(D7 c b5 z psG),(D6 c b6 z csG),(Ea b7 c mm b5 b6),(mid n30 w36),(DK z csG),(DL z psG),(Hz y49 n40)]⟩ rfl ⟨rfl,(by omega),rfl,EH hF46 (hc47 0 _ rfl),EH hF46 (hc47 1 _ rfl),EH hF46 (hc47 2 _ rfl),EH hF46 (hc47 3 _ rfl),EH hF46 (hc47 4 _ rfl),rfl,rfl,rfl,rfl,rfl,rfl,rfl,Be,rfl,rfl,Ae⟩ ?_
  by_cases h50:(y49.Au.Kind:Int)=2
  ·refine q_c 11 0 [1] [[oT,o0],[o0,(a1 9),o0,(a1 5)],[(ov (i6 ((mm+1:Nat):Int))),o0]] [ET y49.Au.Kind 2,Qb n40,Qb b7,Wr ((mm:Int)+1) (((mm+1:Nat):Int))] [(AP z),(Bl b7),(8,i6 ((AY c mm).ch)),(CG c b42 o43 cp38),(BG c),(DR mm),(BQ y49)] ⟨w,n40+1,[(Ak w),(BC c z),(BD z),(D7 c b5 z psG),(D6 c b6 z csG),(Tf b7 c b5 b6 y49),(mid n30 w36),(DK z csG),(DL z psG),(Hz y49 n40)]⟩ rfl ⟨et,rfl,rfl,Be,Ae⟩ ?_
   refine BO [0,1,2,3,4,5,6,7,8] [(Ak w),(BC c z),(BD z),(D7 c b5 z psG),(D6 c b6 z csG),(Tf b7 c b5 b6 y49),(mid n30 w36),(DK z csG),(DL z psG)] rfl rfl ?_
   have hT:=Iy (c:=c) (m:=mm) (by omega)
   rw[←hy49,st2 _ _ (by omega)]at hT
   refine EP [2,4,8,9,10,58,59] [(AP z),(Bl b7),(8,i6 ((AY c mm).ch)),(Et c cp38 ax37),(BQ y49),(BG c),(DR mm)] (by(try dsimp only[Ea,Tf,GI,BD,Hz,BC,FM,D7,D6,DL,DK,CG,EN,BG,Et,DR,AP,FI,BQ,Bl,FN]);simp only[ha44];rfl) ?_
   refine Bz (fun a w' hs=>⟨(AU c).length - (mm+1),by omega,(n40+1),(mm+1),psG,csG,rfl,by omega,by omega,hlp,hlc,by rw[hT];exact hps,by rw[hT];exact hcs,by(try dsimp only[Ea,Tf,GI,BD,Hz,BC,FM,D7,D6,DL,DK,CG,EN,BG,Et,DR,AP,FI,BQ,Bl,FN]at hs ⊢);rw[hT];exact hs⟩)
  refine A8 5 0 [0] [[oF,o0]] [EF y49.Au.Kind 2] [(AP z),(Bl b7),(8,i6 ((AY c mm).ch)),(CG c b42 o43 cp38),(BG c),(59,Ad mm),(FI n40),(BQ y49),(13,i6 y49.Au.Index),(76,i6 y49.Au.Kind),(77,.bool false)] rfl ⟨ef,Ae⟩ ?_
  by_cases h51:(y49.Au.Kind:Int)=3
  ·refine A8 5 7 [1] [[oT,o0],[o0,(a1 5),o0,o0,(a1 9),(oi ((y49.Au.Index).toNat)),o0]] [ET y49.Au.Kind 3,Qb b7,Qb n40,(y49.Au.Index:Int)=(((y49.Au.Index).toNat:Nat):Int),(y49.Au.Index).toNat<c.Aa.xs.length,Bq] [(AP z),(Bl b7),(8,i6 ((AY c mm).ch)),(CG c b42 o43 cp38),(BG c),(59,Ad mm),(BQ y49),(88,i6 y49.At),(90,.pointer (some ⟨b5,0+EK 5 ((y49.Au.Index).toNat),none⟩))] rfl ⟨et,rfl,rfl,(by omega),(by omega),rfl,Ae⟩ ?_
   obtain⟨y52,hy52⟩:∃ y,y=gd psG ((y49.Au.Index).toNat):=⟨_,rfl⟩
   refine MI 3 ((y49.Au.Index).toNat) 0 psG (⟨y49.At,y52.Fh,y52.State,y52.Root,(⟨y52.Tables.a,y52.Tables.cap,y52.Tables.xs⟩:Sl Int)⟩:Aj) Aj.cells z 69 5 b5 c.Aa.xs.length c.Aa.xs.length (i6 y49.At) none (by first | omega | (rw[List.length_set];omega)) (by rw[←hy52];rfl) ?_
   refine Di 6 0 [] [[],[(ov (i6 ((mm+1:Nat):Int))),o0]] [Wr ((mm:Int)+1) (((mm+1:Nat):Int))] [(AP z),(Bl b7),(8,i6 ((AY c mm).ch)),(CG c b42 o43 cp38),(BG c),(DR mm),(BQ y49)] rfl ⟨Be,Ae⟩ ?_
   refine BO [0,1,2,3,4,5,6,7,8] [(Ak w),(BC c z),(BD z),(AV z 69 5 Aj.cells (.slice (some ⟨b5,0,none⟩) c.Aa.xs.length c.Aa.xs.length) (psG.set ((y49.Au.Index).toNat) (⟨y49.At,y52.Fh,y52.State,y52.Root,(⟨y52.Tables.a,y52.Tables.cap,y52.Tables.xs⟩:Sl Int)⟩:Aj))),(D6 c b6 z csG),(Ea b7 c mm b5 b6),(mid n30 w36),(DK z csG),(DL z psG)] rfl rfl ?_
   have hT:=Iy (c:=c) (m:=mm) (by omega)
   rw[←hy49,st3 _ _ (by omega)]at hT
   refine EP [2,4,8,9,10,58,59] [(AP z),(Bl b7),(8,i6 ((AY c mm).ch)),(Et c cp38 ax37),(BQ y49),(BG c),(DR mm)] (by(try dsimp only[Ea,Tf,GI,BD,Hz,BC,FM,D7,D6,DL,DK,CG,EN,BG,Et,DR,AP,FI,BQ,Bl,FN]);simp only[ha44];rfl) ?_
   refine Bz (fun a w' hs=>⟨(AU c).length - (mm+1),by omega,(n40+1),(mm+1),(psG.set ((y49.Au.Index).toNat) (⟨y49.At,y52.Fh,y52.State,y52.Root,(⟨y52.Tables.a,y52.Tables.cap,y52.Tables.xs⟩:Sl Int)⟩:Aj)),csG,rfl,by omega,by omega,by rw[List.length_set];exact hlp,hlc,by rw[hT];show _=List.set _ _ _;rw[List.map_set,←hps,KT (by omega),←hy52];rfl,by rw[hT];exact hcs,by(try dsimp only[Ea,Tf,GI,BD,BC,FM,D7,D6,DL,DK,CG,EN,BG,Et,DR,AP,FI,BQ,Bl,FN]at hs ⊢);rw[hT,P7 (f:=Aj.Tables) (by omega) (by rw[←hy52])];exact hs⟩)
  refine A8 5 0 [0] [[oF,o0]] [EF y49.Au.Kind 3] [(AP z),(Bl b7),(8,i6 ((AY c mm).ch)),(CG c b42 o43 cp38),(BG c),(59,Ad mm),(FI n40),(BQ y49),(13,i6 y49.Au.Index),(76,i6 y49.Au.Kind),(82,.bool false)] rfl ⟨ef,Ae⟩ ?_
  by_cases h53:(y49.Au.Kind:Int)=4
  ·refine A8 5 7 [1] [[oT,o0],[o0,(a1 5),o0,o0,(a1 9),(oi ((y49.Au.Index).toNat)),o0]] [ET y49.Au.Kind 4,Qb b7,Qb n40,(y49.Au.Index:Int)=(((y49.Au.Index).toNat:Nat):Int),(y49.Au.Index).toNat<c.Aa.xs.length,Bq] [(AP z),(Bl b7),(8,i6 ((AY c mm).ch)),(CG c b42 o43 cp38),(BG c),(59,Ad mm),(BQ y49),(97,i6 y49.At),(99,.pointer (some ⟨b5,0+EK 5 ((y49.Au.Index).toNat)+1,none⟩))] rfl ⟨et,rfl,rfl,(by omega),(by omega),rfl,Ae⟩ ?_
   obtain⟨y54,hy54⟩:∃ y,y=gd psG ((y49.Au.Index).toNat):=⟨_,rfl⟩
   refine MI 3 ((y49.Au.Index).toNat) 1 psG (⟨y54.Lock,y49.At,y54.State,y54.Root,(⟨y54.Tables.a,y54.Tables.cap,y54.Tables.xs⟩:Sl Int)⟩:Aj) Aj.cells z 69 5 b5 c.Aa.xs.length c.Aa.xs.length (i6 y49.At) none (by first | omega | (rw[List.length_set];omega)) (by rw[←hy54];rfl) ?_
   refine Di 6 0 [] [[],[(ov (i6 ((mm+1:Nat):Int))),o0]] [Wr ((mm:Int)+1) (((mm+1:Nat):Int))] [(AP z),(Bl b7),(8,i6 ((AY c mm).ch)),(CG c b42 o43 cp38),(BG c),(DR mm),(BQ y49)] rfl ⟨Be,Ae⟩ ?_
   refine BO [0,1,2,3,4,5,6,7,8] [(Ak w),(BC c z),(BD z),(AV z 69 5 Aj.cells (.slice (some ⟨b5,0,none⟩) c.Aa.xs.length c.Aa.xs.length) (psG.set ((y49.Au.Index).toNat) (⟨y54.Lock,y49.At,y54.State,y54.Root,(⟨y54.Tables.a,y54.Tables.cap,y54.Tables.xs⟩:Sl Int)⟩:Aj))),(D6 c b6 z csG),(Ea b7 c mm b5 b6),(mid n30 w36),(DK z csG),(DL z psG)] rfl rfl ?_
   have hT:=Iy (c:=c) (m:=mm) (by omega)
   rw[←hy49,st4 _ _ (by omega)]at hT
   refine EP [2,4,8,9,10,58,59] [(AP z),(Bl b7),(8,i6 ((AY c mm).ch)),(Et c cp38 ax37),(BQ y49),(BG c),(DR mm)] (by(try dsimp only[Ea,GI,BD,BC,FM,D7,D6,DL,DK,CG,EN,BG,Et,DR,AP,FI,BQ,Bl,FN]);simp only[ha44];rfl) ?_
   refine Bz (fun a w' hs=>⟨(AU c).length - (mm+1),by omega,(n40+1),(mm+1),(psG.set ((y49.Au.Index).toNat) (⟨y54.Lock,y49.At,y54.State,y54.Root,(⟨y54.Tables.a,y54.Tables.cap,y54.Tables.xs⟩:Sl Int)⟩:Aj)),csG,rfl,by omega,by omega,by rw[List.length_set];exact hlp,hlc,by rw[hT];show _=List.set _ _ _;rw[List.map_set,←hps,KT (by omega),←hy54];rfl,by rw[hT];exact hcs,by(try dsimp only[Ea,GI,BD,BC,FM,D7,D6,DL,DK,CG,EN,BG,Et,DR,AP,FI,BQ,Bl,FN]at hs ⊢);rw[hT,P7 (f:=Aj.Tables) (by omega) (by rw[←hy54])];exact hs⟩)
  refine A8 5 0 [0] [[oF,o0]] [EF y49.Au.Kind 4] [(AP z),(Bl b7),(8,i6 ((AY c mm).ch)),(CG c b42 o43 cp38),(BG c),(59,Ad mm),(FI n40),(BQ y49),(13,i6 y49.Au.Index),(76,i6 y49.Au.Kind),(91,.bool false)] rfl ⟨ef,Ae⟩ ?_
  by_cases h55:(y49.Au.Kind:Int)=5
  ·refine A8 5 7 [1] [[oT,o0],[o0,(a1 5),o0,o0,(a1 9),(oi ((y49.Au.Index).toNat)),o0]] [ET y49.Au.Kind 5,Qb b7,Qb n40,(y49.Au.Index:Int)=(((y49.Au.Index).toNat:Nat):Int),(y49.Au.Index).toNat<c.Aa.xs.length,Bq] [(AP z),(Bl b7),(8,i6 ((AY c mm).ch)),(CG c b42 o43 cp38),(BG c),(59,Ad mm),(BQ y49),(106,i6 y49.At),(108,.pointer (some ⟨b5,0+EK 5 ((y49.Au.Index).toNat)+2,none⟩))] rfl ⟨et,rfl,rfl,(by omega),(by omega),rfl,Ae⟩ ?_
   obtain⟨y56,hy56⟩:∃ y,y=gd psG ((y49.Au.Index).toNat):=⟨_,rfl⟩
   refine MI 3 ((y49.Au.Index).toNat) 2 psG (⟨y56.Lock,y56.Fh,y49.At,y56.Root,(⟨y56.Tables.a,y56.Tables.cap,y56.Tables.xs⟩:Sl Int)⟩:Aj) Aj.cells z 69 5 b5 c.Aa.xs.length c.Aa.xs.length (i6 y49.At) none (by first | omega | (rw[List.length_set];omega)) (by rw[←hy56];rfl) ?_
   refine Di 6 0 [] [[],[(ov (i6 ((mm+1:Nat):Int))),o0]] [Wr ((mm:Int)+1) (((mm+1:Nat):Int))] [(AP z),(Bl b7),(8,i6 ((AY c mm).ch)),(CG c b42 o43 cp38),(BG c),(DR mm),(BQ y49)] rfl ⟨Be,Ae⟩ ?_
   refine BO [0,1,2,3,4,5,6,7,8] [(Ak w),(BC c z),(BD z),(AV z 69 5 Aj.cells (.slice (some ⟨b5,0,none⟩) c.Aa.xs.length c.Aa.xs.length) (psG.set ((y49.Au.Index).toNat) (⟨y56.Lock,y56.Fh,y49.At,y56.Root,(⟨y56.Tables.a,y56.Tables.cap,y56.Tables.xs⟩:Sl Int)⟩:Aj))),(D6 c b6 z csG),(Ea b7 c mm b5 b6),(mid n30 w36),(DK z csG),(DL z psG)] rfl rfl ?_
   have hT:=Iy (c:=c) (m:=mm) (by omega)
   rw[←hy49,st5 _ _ (by omega)]at hT
   refine EP [2,4,8,9,10,58,59] [(AP z),(Bl b7),(8,i6 ((AY c mm).ch)),(Et c cp38 ax37),(BQ y49),(BG c),(DR mm)] (by(try dsimp only[Ea,GI,BD,BC,FM,D7,D6,DL,DK,CG,EN,BG,Et,DR,AP,FI,BQ,Bl,FN]);simp only[ha44];rfl) ?_
   refine Bz (fun a w' hs=>⟨(AU c).length - (mm+1),by omega,(n40+1),(mm+1),(psG.set ((y49.Au.Index).toNat) (⟨y56.Lock,y56.Fh,y49.At,y56.Root,(⟨y56.Tables.a,y56.Tables.cap,y56.Tables.xs⟩:Sl Int)⟩:Aj)),csG,rfl,by omega,by omega,by rw[List.length_set];exact hlp,hlc,by rw[hT];show _=List.set _ _ _;rw[List.map_set,←hps,KT (by omega),←hy56];rfl,by rw[hT];exact hcs,by(try dsimp only[Ea,GI,BD,BC,FM,D7,D6,DL,DK,CG,EN,BG,Et,DR,AP,FI,BQ,Bl,FN]at hs ⊢);rw[hT,P7 (f:=Aj.Tables) (by omega) (by rw[←hy56])];exact hs⟩)
  refine A8 5 0 [0] [[oF,o0]] [EF y49.Au.Kind 5] [(AP z),(Bl b7),(8,i6 ((AY c mm).ch)),(CG c b42 o43 cp38),(BG c),(59,Ad mm),(FI n40),(BQ y49),(13,i6 y49.Au.Index),(76,i6 y49.Au.Kind),(100,.bool false)] rfl ⟨ef,Ae⟩ ?_
  by_cases h57:(y49.Au.Kind:Int)=6
  ·refine A8 6 7 [1] [[oT,o0],[o0,(a1 5),o0,o0,(a1 9),(oi ((y49.Au.Index).toNat)),o0]] [ET y49.Au.Kind 6,Qb b7,Qb n40,(y49.Au.Index:Int)=(((y49.Au.Index).toNat:Nat):Int),(y49.Au.Index).toNat<c.Ac.xs.length,Bq] [(AP z),(Bl b7),(CG c b42 o43 cp38),(BG c),(59,Ad mm),(BQ y49),(13,i6 y49.Au.Index),(115,i6 y49.At),(117,.pointer (some ⟨b6,0+EK 5 ((y49.Au.Index).toNat),none⟩))] rfl ⟨et,rfl,rfl,(by omega),(by omega),rfl,Ae⟩ ?_
   obtain⟨y58,hy58⟩:∃ y,y=gd csG ((y49.Au.Index).toNat):=⟨_,rfl⟩
   refine MI 4 ((y49.Au.Index).toNat) 0 csG (⟨y49.At,y58.Gw,y58.Partition,y58.Port,(⟨y58.AX.a,y58.AX.cap,y58.AX.xs⟩:Sl AL)⟩:Aq) Aq.cells z 62 5 b6 c.Ac.xs.length c.Ac.xs.length (i6 y49.At) none (by first | omega | (rw[List.length_set];omega)) (by rw[←hy58];rfl) ?_
   refine Di 9 0 [] [[],[o0,o0],[(ov (i6 ((mm+1:Nat):Int))),o0]] [Wr ((mm:Int)+1) (((mm+1:Nat):Int))] [(AP z),(Bl b7),(CG c b42 o43 cp38),(BG c),(DR mm),(BQ y49),(8,i6 y49.Au.Index)] rfl ⟨Be,Ae⟩ ?_
   refine BO [0,1,2,3,4,5,6,7,8] [(Ak w),(BC c z),(BD z),(D7 c b5 z psG),(AV z 62 5 Aq.cells (.slice (some ⟨b6,0,none⟩) c.Ac.xs.length c.Ac.xs.length) (csG.set ((y49.Au.Index).toNat) (⟨y49.At,y58.Gw,y58.Partition,y58.Port,(⟨y58.AX.a,y58.AX.cap,y58.AX.xs⟩:Sl AL)⟩:Aq))),(Ea b7 c mm b5 b6),(mid n30 w36),(DK z csG),(DL z psG)] rfl rfl ?_
   have hT:=Iy (c:=c) (m:=mm) (by omega)
   rw[←hy49,st6 _ _ (by omega)]at hT
   refine EP [2,4,8,9,10,58,59] [(AP z),(Bl b7),(8,i6 y49.Au.Index),(Et c cp38 ax37),(BQ y49),(BG c),(DR mm)] (by(try dsimp only[Ea,GI,BD,BC,FM,D7,D6,DL,DK,CG,EN,BG,Et,DR,AP,FI,BQ,Bl,FN]);simp only[ha44];rfl) ?_
   refine Bz (fun a w' hs=>⟨(AU c).length - (mm+1),by omega,(n40+1),(mm+1),psG,(csG.set ((y49.Au.Index).toNat) (⟨y49.At,y58.Gw,y58.Partition,y58.Port,(⟨y58.AX.a,y58.AX.cap,y58.AX.xs⟩:Sl AL)⟩:Aq)),rfl,by omega,by omega,hlp,by rw[List.length_set];exact hlc,by rw[hT];exact hps,by rw[hT];show _=List.set _ _ _;rw[List.map_set,←hcs,KT (by omega),←hy58];rfl,by(try dsimp only[Ea,GI,BD,BC,FM,D7,D6,DL,DK,CG,EN,BG,Et,DR,AP,FI,BQ,Bl,FN]at hs ⊢);rw[hT,P7 (f:=Aq.AX) (by omega) (by rw[←hy58])];exact hs⟩)
  refine A8 5 0 [0] [[oF,o0]] [EF y49.Au.Kind 6] [(AP z),(Bl b7),(8,i6 ((AY c mm).ch)),(CG c b42 o43 cp38),(BG c),(59,Ad mm),(FI n40),(BQ y49),(13,i6 y49.Au.Index),(76,i6 y49.Au.Kind),(109,.bool false)] rfl ⟨ef,Ae⟩ ?_
  by_cases h59:(y49.Au.Kind:Int)=7
  ·refine A8 5 7 [1] [[oT,o0],[o0,(a1 5),o0,o0,(a1 9),(oi ((y49.Au.Index).toNat)),o0]] [ET y49.Au.Kind 7,Qb b7,Qb n40,(y49.Au.Index:Int)=(((y49.Au.Index).toNat:Nat):Int),(y49.Au.Index).toNat<c.Ac.xs.length,Bq] [(AP z),(Bl b7),(8,i6 ((AY c mm).ch)),(CG c b42 o43 cp38),(BG c),(59,Ad mm),(BQ y49),(125,i6 y49.At),(127,.pointer (some ⟨b6,0+EK 5 ((y49.Au.Index).toNat)+1,none⟩))] rfl ⟨et,rfl,rfl,(by omega),(by omega),rfl,Ae⟩ ?_
   obtain⟨y60,hy60⟩:∃ y,y=gd csG ((y49.Au.Index).toNat):=⟨_,rfl⟩
   refine MI 4 ((y49.Au.Index).toNat) 1 csG (⟨y60.Lock,y49.At,y60.Partition,y60.Port,(⟨y60.AX.a,y60.AX.cap,y60.AX.xs⟩:Sl AL)⟩:Aq) Aq.cells z 62 5 b6 c.Ac.xs.length c.Ac.xs.length (i6 y49.At) none (by first | omega | (rw[List.length_set];omega)) (by rw[←hy60];rfl) ?_
   refine Di 6 0 [] [[],[(ov (i6 ((mm+1:Nat):Int))),o0]] [Wr ((mm:Int)+1) (((mm+1:Nat):Int))] [(AP z),(Bl b7),(8,i6 ((AY c mm).ch)),(CG c b42 o43 cp38),(BG c),(DR mm),(BQ y49)] rfl ⟨Be,Ae⟩ ?_
   refine BO [0,1,2,3,4,5,6,7,8] [(Ak w),(BC c z),(BD z),(D7 c b5 z psG),(AV z 62 5 Aq.cells (.slice (some ⟨b6,0,none⟩) c.Ac.xs.length c.Ac.xs.length) (csG.set ((y49.Au.Index).toNat) (⟨y60.Lock,y49.At,y60.Partition,y60.Port,(⟨y60.AX.a,y60.AX.cap,y60.AX.xs⟩:Sl AL)⟩:Aq))),(Ea b7 c mm b5 b6),(mid n30 w36),(DK z csG),(DL z psG)] rfl rfl ?_
   have hT:=Iy (c:=c) (m:=mm) (by omega)
   rw[←hy49,st7 _ _ (by omega)]at hT
   refine EP [2,4,8,9,10,58,59] [(AP z),(Bl b7),(8,i6 ((AY c mm).ch)),(Et c cp38 ax37),(BQ y49),(BG c),(DR mm)] (by(try dsimp only[Ea,GI,BD,BC,FM,D7,D6,DL,DK,CG,EN,BG,Et,DR,AP,FI,BQ,Bl,FN]);simp only[ha44];rfl) ?_
   refine Bz (fun a w' hs=>⟨(AU c).length - (mm+1),by omega,(n40+1),(mm+1),psG,(csG.set ((y49.Au.Index).toNat) (⟨y60.Lock,y49.At,y60.Partition,y60.Port,(⟨y60.AX.a,y60.AX.cap,y60.AX.xs⟩:Sl AL)⟩:Aq)),rfl,by omega,by omega,hlp,by rw[List.length_set];exact hlc,by rw[hT];exact hps,by rw[hT];show _=List.set _ _ _;rw[List.map_set,←hcs,KT (by omega),←hy60];rfl,by(try dsimp only[Ea,GI,BD,BC,FM,D7,D6,DL,DK,CG,EN,BG,Et,DR,AP,FI,BQ,Bl,FN]at hs ⊢);rw[hT,P7 (f:=Aq.AX) (by omega) (by rw[←hy60])];exact hs⟩)
  refine A8 5 0 [0] [[oF,o0]] [EF y49.Au.Kind 7] [(AP z),(Bl b7),(8,i6 ((AY c mm).ch)),(CG c b42 o43 cp38),(BG c),(59,Ad mm),(FI n40),(BQ y49),(13,i6 y49.Au.Index),(76,i6 y49.Au.Kind),(119,.bool false)] rfl ⟨ef,Ae⟩ ?_
  by_cases h61:(y49.Au.Kind:Int)=8
  ·refine A8 4 0 [1] [[oT,o0]] [ET y49.Au.Kind 8] [(AP z),(Bl b7),(8,i6 ((AY c mm).ch)),(CG c b42 o43 cp38),(BG c),(59,Ad mm),(FI n40),(BQ y49),(13,i6 y49.Au.Index),(76,i6 y49.Au.Kind),(128,.bool true)] rfl ⟨et,Ae⟩ ?_
   obtain⟨y62,hy62⟩:∃ y,y=gd csG (((AY c mm).ch).toNat):=⟨_,rfl⟩
   refine VA 7 [0,1,2,3,4,5,6,8,9] z 71 3 AL.cells (csG.map Aq.AX) (((AY c mm).ch).toNat) y62.AX (by rw[KT (by omega),←hy62]) (by rw[List.length_map];omega) [(Ak w),(BC c z),(BD z),(D7 c b5 z psG),(D6 c b6 z csG),(Ea b7 c mm b5 b6),(mid n30 w36),(DL z psG),(Hz y49 n40)] ?_
   have hbig:y62.AX.xs.length≤mm:=by have hb:=(UB hfine mm (by omega)).2 (nC y62) (by rw[hy62,←hcs];exact List.mem_map_of_mem (OU (by omega)));exact hb
   refine Fp 20 [0,1,2,3,4,5,6,7,8,9] [(Ak w),(BC c z),(BD z),(D7 c b5 z psG),(D6 c b6 z csG),(Ea b7 c mm b5 b6),(mid n30 w36),(DL z psG),(Hz y49 n40),(Tv c mm z csG)] rfl rfl ?_
   refine CU [(0,o0),(1,(a1 5)),(2,o0),(3,o0),(4,(a1 5)),(5,o0),(6,(oi (((AY c mm).ch).toNat))),(7,o0),(8,(oa [.via 4 (.slice y62.AX.a y62.AX.xs.length y62.AX.cap)])),(9,o0),(10,o0),(11,o0),(12,(a1 8)),(13,o0),(14,(a1 8)),(15,o0)] [2,4,8,9,58,59,10,131,132,138,145] [Qb b7,Qb b7,((AY c mm).ch:Int)=((((AY c mm).ch).toNat:Nat):Int),((AY c mm).ch).toNat<c.Ac.xs.length,Bq,∀ w',Ch.holds (D6 c b6 z csG) w'→w'.cell? ⟨b6,0+EK 5 (((AY c mm).ch).toNat)+4,none⟩=some (.slice y62.AX.a y62.AX.xs.length y62.AX.cap),Qb n40,Qb n40] (Ed 16 5) [(AP z),(Bl b7),(8,i6 ((AY c mm).ch)),(CG c b42 o43 cp38),(BG c),(59,Ad mm),(BQ y49),(Ti c b6),(132,i6 ((AY c mm).ch)),(138,.slice y62.AX.a y62.AX.xs.length y62.AX.cap),(145,.agg #[i6 y49.Au.Index,i6 y49.Au.Port,i6 y49.At])] ⟨rfl,rfl,(by omega),(by omega),rfl,Iq (sz:=5) (j:=((AY c mm).ch).toNat) (k:=4) (fun _=>rfl) (by first | omega | (rw[List.length_set];omega)) (by rw[←hy62];rfl),rfl,rfl,Ae⟩ ?_
   refine CX 16 ?_
   refine EJ o0 [2,4,8,9,58,59,10,131,132,138,146] [] [(AP z),(Bl b7),(8,i6 ((AY c mm).ch)),(CG c b42 o43 cp38),(BG c),(59,Ad mm),(BQ y49),(Ti c b6),(132,i6 ((AY c mm).ch)),(138,.slice y62.AX.a y62.AX.xs.length y62.AX.cap),(146,.slice (some ⟨n40+1,0,none⟩) 1 1)] ⟨w,n40+2,[(Ak w),(BC c z),(BD z),(D7 c b5 z psG),(D6 c b6 z csG),(Ea b7 c mm b5 b6),(mid n30 w36),(DL z psG),(Hz y49 n40),(Tv c mm z csG),(AV z 71 3 AL.cells (.slice y62.AX.a y62.AX.xs.length y62.AX.cap) y62.AX.xs),(UC y49 n40)]⟩ [0,1,2,3,4,5,6,7,8,9] Ae (.inr rfl) ?_
   refine CX 17 ?_
   refine QD z 10 11 y62.AX.xs [(⟨y49.Au.Index,y49.Au.Port,y49.At⟩:AL)] AL.cells 71 3 24 (.slice y62.AX.a y62.AX.xs.length y62.AX.cap) (n40+1) 1 1 #[i6 y49.Au.Index,i6 y49.Au.Port,i6 y49.At] 71 (0,0) true (some 147) [0,1,2,3,4,5,6,7,8,9] (by simp only[List.length_cons,List.length_nil,List.length_append];omega) (show z≤n40+2 by omega) (.inr ⟨rfl,rfl⟩) (fun ax63 cp64 n65 (hn66:n40+2≤n65) => ?_)
   refine DV [2,4,8,9,58,59,10,131,132,147] [(AP z),(Bl b7),(8,i6 ((AY c mm).ch)),(CG c b42 o43 cp38),(BG c),(59,Ad mm),(BQ y49),(Ti c b6),(132,i6 ((AY c mm).ch)),(147,.slice ax63 ((y62.AX.xs++[(⟨y49.Au.Index,y49.Au.Port,y49.At⟩:AL)]).length) cp64)] ?_
   refine CU [(18,(oi (((AY c mm).ch).toNat))),(19,o0)] [2,4,8,9,58,59,10,147,149] [((AY c mm).ch:Int)=((((AY c mm).ch).toNat:Nat):Int),((AY c mm).ch).toNat<c.Ac.xs.length,Bq] (Ed 20 1) [(AP z),(Bl b7),(8,i6 ((AY c mm).ch)),(CG c b42 o43 cp38),(BG c),(59,Ad mm),(BQ y49),(147,.slice ax63 ((y62.AX.xs++[(⟨y49.Au.Index,y49.Au.Port,y49.At⟩:AL)]).length) cp64),(149,.pointer (some ⟨b6,0+EK 5 (((AY c mm).ch).toNat)+4,none⟩))] ⟨(by omega),(by omega),rfl,Ae⟩ ?_
   refine CX 20 ?_
   refine RP 4 (((AY c mm).ch).toNat) 4 csG (⟨y62.Lock,y62.Gw,y62.Partition,y62.Port,(⟨ax63,cp64,(y62.AX.xs++[(⟨y49.Au.Index,y49.Au.Port,y49.At⟩:AL)])⟩:Sl AL)⟩:Aq) Aq.cells z 62 5 b6 c.Ac.xs.length c.Ac.xs.length (.slice ax63 ((y62.AX.xs++[(⟨y49.Au.Index,y49.Au.Port,y49.At⟩:AL)]).length) cp64) none [] (by first | omega | (rw[List.length_set];omega)) (by rw[←hy62];rfl) (.inl rfl) ?_
   refine DV [2,4,8,9,58,59,10] [(AP z),(Bl b7),(8,i6 ((AY c mm).ch)),(CG c b42 o43 cp38),(BG c),(59,Ad mm),(BQ y49)] ?_
   refine IA 21 [0,1,2,3,4,5,6,7,8,9,10,11] [(Ak w),(BC c z),(BD z),(D7 c b5 z psG),(Sm c mm b6 y49 z csG y62 ax63 cp64),(Ea b7 c mm b5 b6),(mid n30 w36),(DL z psG),(Hz y49 n40),(Tv c mm z csG),(AV z 71 3 AL.cells (.slice ax63 ((y62.AX.xs++[(⟨y49.Au.Index,y49.Au.Port,y49.At⟩:AL)]).length) cp64) (y62.AX.xs++[(⟨y49.Au.Index,y49.Au.Port,y49.At⟩:AL)])),(UC y49 n40)] rfl rfl ?_
   refine D9 ?_
   refine Ja 5 0 [] [[(ov (i6 ((mm+1:Nat):Int))),o0]] [Wr ((mm:Int)+1) (((mm+1:Nat):Int))] [(AP z),(Bl b7),(8,i6 ((AY c mm).ch)),(CG c b42 o43 cp38),(BG c),(DR mm),(BQ y49)] rfl ⟨Be,Ae⟩ ?_
   refine Xp 9 10 [0,1,2,3,4,5,6,7,8,11] z 71 3 AL.cells (csG.map Aq.AX) (((AY c mm).ch).toNat) (by rw[List.length_map];omega) ax63 cp64 (y62.AX.xs++[(⟨y49.Au.Index,y49.Au.Port,y49.At⟩:AL)]) [(Ak w),(BC c z),(BD z),(D7 c b5 z psG),(Sm c mm b6 y49 z csG y62 ax63 cp64),(Ea b7 c mm b5 b6),(mid n30 w36),(DL z psG),(Hz y49 n40),(UC y49 n40)] ?_
   refine BO [0,1,2,3,4,5,6,10,7] [(Ak w),(BC c z),(BD z),(D7 c b5 z psG),(Sm c mm b6 y49 z csG y62 ax63 cp64),(Ea b7 c mm b5 b6),(mid n30 w36),(AA z 71 3 AL.cells ((csG.map Aq.AX).set (((AY c mm).ch).toNat) ⟨ax63,cp64,(y62.AX.xs++[(⟨y49.Au.Index,y49.Au.Port,y49.At⟩:AL)])⟩)),(DL z psG)] rfl rfl ?_
   have hT:=Iy (c:=c) (m:=mm) (by omega)
   rw[←hy49,st8 _ _ (by omega)]at hT
   refine EP [2,4,8,9,10,58,59] [(AP z),(Bl b7),(8,i6 ((AY c mm).ch)),(Et c cp38 ax37),(BQ y49),(BG c),(DR mm)] (by(try dsimp only[Ea,GI,UC,BD,Hz,BC,Sm,FM,D7,D6,Tv,DL,DK,Ti,CG,EN,BG,Et,DR,AP,BQ,Bl,FN]);simp only[ha44];rfl) ?_
   refine Bz (fun a w' hs=>⟨(AU c).length - (mm+1),by omega,n65,(mm+1),psG,(csG.set (((AY c mm).ch).toNat) (⟨y62.Lock,y62.Gw,y62.Partition,y62.Port,(⟨ax63,cp64,(y62.AX.xs++[(⟨y49.Au.Index,y49.Au.Port,y49.At⟩:AL)])⟩:Sl AL)⟩:Aq)),rfl,by omega,by omega,hlp,by rw[List.length_set];exact hlc,by rw[hT];exact hps,by rw[hT];show _=List.set _ _ _;rw[List.map_set,←hcs,KT (by omega),←hy62];rfl,by(try dsimp only[Ea,GI,UC,BD,Hz,BC,Sm,FM,D7,D6,Tv,DL,DK,Ti,CG,EN,BG,Et,DR,AP,BQ,Bl,FN]at hs ⊢);rw[hT,List.map_set];exact hs⟩)
  refine A8 5 0 [0] [[oF,o0]] [EF y49.Au.Kind 8] [(AP z),(Bl b7),(8,i6 ((AY c mm).ch)),(CG c b42 o43 cp38),(BG c),(59,Ad mm),(FI n40),(BQ y49),(13,i6 y49.Au.Index),(76,i6 y49.Au.Kind),(128,.bool false)] rfl ⟨ef,Ae⟩ ?_
  by_cases h67:(y49.Au.Kind:Int)=9
  ·refine A8 5 0 [1] [[oT,o0]] [ET y49.Au.Kind 9] [(AP z),(Bl b7),(8,i6 ((AY c mm).ch)),(CG c b42 o43 cp38),(BG c),(59,Ad mm),(FI n40),(BQ y49),(13,i6 y49.Au.Index),(150,.bool true)] rfl ⟨et,Ae⟩ ?_
   obtain⟨y68,hy68⟩:∃ y,y=gd psG ((y49.Au.Index).toNat):=⟨_,rfl⟩
   by_cases h69:(y68.Root:Int)=0
   ·refine A8 5 8 [1] [[o0,(a1 5),o0,(oi ((y49.Au.Index).toNat)),o0,(oa [.via 3 (i6 y68.Root)]),oT],[o0,(a1 5),o0,o0,(a1 9),(ov (i6 (y49.At / 16))),(oi ((y49.Au.Index).toNat)),o0]] [Qb b7,(y49.Au.Index:Int)=(((y49.Au.Index).toNat:Nat):Int),(y49.Au.Index).toNat<c.Aa.xs.length,Bq,∀ w',Ch.holds (D7 c b5 z psG) w'→w'.cell? ⟨b5,0+EK 5 ((y49.Au.Index).toNat)+3,none⟩=some (i6 y68.Root),ET y68.Root 0,Qb b7,Qb n40,Wr (Int.tdiv (y49.At) 16) (y49.At / 16),(y49.Au.Index:Int)=(((y49.Au.Index).toNat:Nat):Int),(y49.Au.Index).toNat<c.Aa.xs.length,Bq] [(AP z),(Bl b7),(8,i6 ((AY c mm).ch)),(CG c b42 o43 cp38),(BG c),(59,Ad mm),(BQ y49),(164,i6 (y49.At / 16)),(166,.pointer (some ⟨b5,0+EK 5 ((y49.Au.Index).toNat)+3,none⟩))] rfl ⟨rfl,(by omega),(by omega),rfl,Iq (sz:=5) (j:=(y49.Au.Index).toNat) (k:=3) (fun _=>rfl) (by first | omega | (rw[List.length_set];omega)) (by rw[←hy68];rfl),et,rfl,rfl,congrArg (Value.int .i64) (I5 (by omega) (by omega) (by omega)),(by omega),(by omega),rfl,Ae⟩ ?_
    refine MI 3 ((y49.Au.Index).toNat) 3 psG (⟨y68.Lock,y68.Fh,y68.State,y49.At / 16,(⟨y68.Tables.a,y68.Tables.cap,y68.Tables.xs⟩:Sl Int)⟩:Aj) Aj.cells z 69 5 b5 c.Aa.xs.length c.Aa.xs.length (i6 (y49.At / 16)) none (by first | omega | (rw[List.length_set];omega)) (by rw[←hy68];rfl) ?_
    refine Di 6 0 [] [[],[(ov (i6 ((mm+1:Nat):Int))),o0]] [Wr ((mm:Int)+1) (((mm+1:Nat):Int))] [(AP z),(Bl b7),(8,i6 ((AY c mm).ch)),(CG c b42 o43 cp38),(BG c),(DR mm),(BQ y49)] rfl ⟨Be,Ae⟩ ?_
    refine BO [0,1,2,3,4,5,6,7,8] [(Ak w),(BC c z),(BD z),(AV z 69 5 Aj.cells (.slice (some ⟨b5,0,none⟩) c.Aa.xs.length c.Aa.xs.length) (psG.set ((y49.Au.Index).toNat) (⟨y68.Lock,y68.Fh,y68.State,y49.At / 16,(⟨y68.Tables.a,y68.Tables.cap,y68.Tables.xs⟩:Sl Int)⟩:Aj))),(D6 c b6 z csG),(Ea b7 c mm b5 b6),(mid n30 w36),(DK z csG),(DL z psG)] rfl rfl ?_
    have hT:=Iy (c:=c) (m:=mm) (by omega)
    rw[←hy49,st9 _ _ (by omega)]at hT
    refine EP [2,4,8,9,10,58,59] [(AP z),(Bl b7),(8,i6 ((AY c mm).ch)),(Et c cp38 ax37),(BQ y49),(BG c),(DR mm)] (by(try dsimp only[Ea,GI,BD,BC,FM,D7,D6,DL,DK,CG,EN,BG,Et,DR,AP,FI,BQ,Bl,FN]);simp only[ha44];rfl) ?_
    refine Bz (fun a w' hs=>⟨(AU c).length - (mm+1),by omega,(n40+1),(mm+1),(psG.set ((y49.Au.Index).toNat) (⟨y68.Lock,y68.Fh,y68.State,y49.At / 16,(⟨y68.Tables.a,y68.Tables.cap,y68.Tables.xs⟩:Sl Int)⟩:Aj)),csG,rfl,by omega,by omega,by rw[List.length_set];exact hlp,hlc,by rw[hT];show _=List.set _ _ _;rw[List.map_set,←hps,KT (by omega),←hy68];rw[tabF_pos (p:=nP y68) (show y68.Root=0 from by omega)];rfl,by rw[hT];exact hcs,by(try dsimp only[Ea,GI,BD,BC,FM,D7,D6,DL,DK,CG,EN,BG,Et,DR,AP,FI,BQ,Bl,FN]at hs ⊢);rw[hT,P7 (f:=Aj.Tables) (by omega) (by rw[←hy68])];exact hs⟩)
   refine A8 4 0 [0] [[o0,(a1 5),o0,(oi ((y49.Au.Index).toNat)),o0,(oa [.via 3 (i6 y68.Root)]),oF]] [Qb b7,(y49.Au.Index:Int)=(((y49.Au.Index).toNat:Nat):Int),(y49.Au.Index).toNat<c.Aa.xs.length,Bq,∀ w',Ch.holds (D7 c b5 z psG) w'→w'.cell? ⟨b5,0+EK 5 ((y49.Au.Index).toNat)+3,none⟩=some (i6 y68.Root),EF y68.Root 0] [(AP z),(Bl b7),(8,i6 ((AY c mm).ch)),(CG c b42 o43 cp38),(BG c),(59,Ad mm),(FI n40),(BQ y49),(13,i6 y49.Au.Index),(158,.bool false)] rfl ⟨rfl,(by omega),(by omega),rfl,Iq (sz:=5) (j:=(y49.Au.Index).toNat) (k:=3) (fun _=>rfl) (by first | omega | (rw[List.length_set];omega)) (by rw[←hy68];rfl),ef,Ae⟩ ?_
   refine VA 8 [0,1,2,3,4,5,6,7,9] z 3 1 (fun x:Int=>[i6 x]) (psG.map Aj.Tables) ((y49.Au.Index).toNat) y68.Tables (by rw[KT (by omega),←hy68]) (by rw[List.length_map];omega) [(Ak w),(BC c z),(BD z),(D7 c b5 z psG),(D6 c b6 z csG),(Ea b7 c mm b5 b6),(mid n30 w36),(DK z csG),(Hz y49 n40)] ?_
   have hbig:y68.Tables.xs.length≤mm:=by have hb:=(UB hfine mm (by omega)).1 (nP y68) (by rw[hy68,←hps];exact List.mem_map_of_mem (OU (by omega)));exact hb
   refine Fp 16 [0,1,2,3,4,5,6,7,8,9] [(Ak w),(BC c z),(BD z),(D7 c b5 z psG),(D6 c b6 z csG),(Ea b7 c mm b5 b6),(mid n30 w36),(DK z csG),(Hz y49 n40),(Tm y49 z psG)] rfl rfl ?_
   refine CU [(0,o0),(1,(a1 5)),(2,o0),(3,o0),(4,(a1 5)),(5,o0),(6,(oi ((y49.Au.Index).toNat))),(7,o0),(8,(oa [.via 3 (.slice y68.Tables.a y68.Tables.xs.length y68.Tables.cap)])),(9,o0),(10,(a1 8)),(11,(ov (i6 (y49.At / 16))))] [2,4,8,9,58,59,10,168,169,175,178] [Qb b7,Qb b7,(y49.Au.Index:Int)=(((y49.Au.Index).toNat:Nat):Int),(y49.Au.Index).toNat<c.Aa.xs.length,Bq,∀ w',Ch.holds (D7 c b5 z psG) w'→w'.cell? ⟨b5,0+EK 5 ((y49.Au.Index).toNat)+4,none⟩=some (.slice y68.Tables.a y68.Tables.xs.length y68.Tables.cap),Qb n40,Wr (Int.tdiv (y49.At) 16) (y49.At / 16)] (Ed 12 5) [(AP z),(Bl b7),(8,i6 ((AY c mm).ch)),(CG c b42 o43 cp38),(BG c),(59,Ad mm),(BQ y49),(SC c b5),(169,i6 y49.Au.Index),(175,.slice y68.Tables.a y68.Tables.xs.length y68.Tables.cap),(178,i6 (y49.At / 16))] ⟨rfl,rfl,(by omega),(by omega),rfl,Iq (sz:=5) (j:=(y49.Au.Index).toNat) (k:=4) (fun _=>rfl) (by first | omega | (rw[List.length_set];omega)) (by rw[←hy68];rfl),rfl,congrArg (Value.int .i64) (I5 (by omega) (by omega) (by omega)),Ae⟩ ?_
   refine CX 12 ?_
   refine EJ o0 [2,4,8,9,58,59,10,168,169,175,179] [] [(AP z),(Bl b7),(8,i6 ((AY c mm).ch)),(CG c b42 o43 cp38),(BG c),(59,Ad mm),(BQ y49),(SC c b5),(169,i6 y49.Au.Index),(175,.slice y68.Tables.a y68.Tables.xs.length y68.Tables.cap),(179,.slice (some ⟨n40+1,0,none⟩) 1 1)] ⟨w,n40+2,[(Ak w),(BC c z),(BD z),(D7 c b5 z psG),(D6 c b6 z csG),(Ea b7 c mm b5 b6),(mid n30 w36),(DK z csG),(Hz y49 n40),(Tm y49 z psG),(AV z 3 1 (fun x:Int=>[i6 x]) (.slice y68.Tables.a y68.Tables.xs.length y68.Tables.cap) y68.Tables.xs),(bk (n40+1) #[i6 (y49.At / 16)] 3)]⟩ [0,1,2,3,4,5,6,7,8,9] Ae (.inr rfl) ?_
   refine CX 13 ?_
   refine QD z 10 11 y68.Tables.xs [y49.At / 16] (fun x:Int=>[i6 x]) 3 1 8 (.slice y68.Tables.a y68.Tables.xs.length y68.Tables.cap) (n40+1) 1 1 #[i6 (y49.At / 16)] 3 (0,0) true (some 180) [0,1,2,3,4,5,6,7,8,9] (by simp only[List.length_cons,List.length_nil,List.length_append];omega) (show z≤n40+2 by omega) (.inr ⟨rfl,rfl⟩) (fun ax70 cp71 n72 (hn73:n40+2≤n72) => ?_)
   refine DV [2,4,8,9,58,59,10,168,169,180] [(AP z),(Bl b7),(8,i6 ((AY c mm).ch)),(CG c b42 o43 cp38),(BG c),(59,Ad mm),(BQ y49),(SC c b5),(169,i6 y49.Au.Index),(180,.slice ax70 ((y68.Tables.xs++[y49.At / 16]).length) cp71)] ?_
   refine CU [(14,(oi ((y49.Au.Index).toNat))),(15,o0)] [2,4,8,9,58,59,10,180,182] [(y49.Au.Index:Int)=(((y49.Au.Index).toNat:Nat):Int),(y49.Au.Index).toNat<c.Aa.xs.length,Bq] (Ed 16 1) [(AP z),(Bl b7),(8,i6 ((AY c mm).ch)),(CG c b42 o43 cp38),(BG c),(59,Ad mm),(BQ y49),(180,.slice ax70 ((y68.Tables.xs++[y49.At / 16]).length) cp71),(182,.pointer (some ⟨b5,0+EK 5 ((y49.Au.Index).toNat)+4,none⟩))] ⟨(by omega),(by omega),rfl,Ae⟩ ?_
   refine CX 16 ?_
   refine RP 3 ((y49.Au.Index).toNat) 4 psG (⟨y68.Lock,y68.Fh,y68.State,y68.Root,(⟨ax70,cp71,(y68.Tables.xs++[y49.At / 16])⟩:Sl Int)⟩:Aj) Aj.cells z 69 5 b5 c.Aa.xs.length c.Aa.xs.length (.slice ax70 ((y68.Tables.xs++[y49.At / 16]).length) cp71) none [] (by first | omega | (rw[List.length_set];omega)) (by rw[←hy68];rfl) (.inl rfl) ?_
   refine DV [2,4,8,9,58,59,10] [(AP z),(Bl b7),(8,i6 ((AY c mm).ch)),(CG c b42 o43 cp38),(BG c),(59,Ad mm),(BQ y49)] ?_
   refine IA 17 [0,1,2,3,4,5,6,7,8,9,10,11] [(Ak w),(BC c z),(BD z),(SG c b5 y49 z psG y68 ax70 cp71),(D6 c b6 z csG),(Ea b7 c mm b5 b6),(mid n30 w36),(DK z csG),(Hz y49 n40),(Tm y49 z psG),(AV z 3 1 (fun x:Int=>[i6 x]) (.slice ax70 ((y68.Tables.xs++[y49.At / 16]).length) cp71) (y68.Tables.xs++[y49.At / 16])),(bk (n40+1) #[i6 (y49.At / 16)] 3)] rfl rfl ?_
   refine D9 ?_
   refine Ja 5 0 [] [[(ov (i6 ((mm+1:Nat):Int))),o0]] [Wr ((mm:Int)+1) (((mm+1:Nat):Int))] [(AP z),(Bl b7),(8,i6 ((AY c mm).ch)),(CG c b42 o43 cp38),(BG c),(DR mm),(BQ y49)] rfl ⟨Be,Ae⟩ ?_
   refine Xp 9 10 [0,1,2,3,4,5,6,7,8,11] z 3 1 (fun x:Int=>[i6 x]) (psG.map Aj.Tables) ((y49.Au.Index).toNat) (by rw[List.length_map];omega) ax70 cp71 (y68.Tables.xs++[y49.At / 16]) [(Ak w),(BC c z),(BD z),(SG c b5 y49 z psG y68 ax70 cp71),(D6 c b6 z csG),(Ea b7 c mm b5 b6),(mid n30 w36),(DK z csG),(Hz y49 n40),(bk (n40+1) #[i6 (y49.At / 16)] 3)] ?_
   refine BO [0,1,2,3,4,5,6,7,10] [(Ak w),(BC c z),(BD z),(SG c b5 y49 z psG y68 ax70 cp71),(D6 c b6 z csG),(Ea b7 c mm b5 b6),(mid n30 w36),(DK z csG),(AA z 3 1 (fun x:Int=>[i6 x]) ((psG.map Aj.Tables).set ((y49.Au.Index).toNat) ⟨ax70,cp71,(y68.Tables.xs++[y49.At / 16])⟩))] rfl rfl ?_
   have hT:=Iy (c:=c) (m:=mm) (by omega)
   rw[←hy49,st9 _ _ (by omega)]at hT
   refine EP [2,4,8,9,10,58,59] [(AP z),(Bl b7),(8,i6 ((AY c mm).ch)),(Et c cp38 ax37),(BQ y49),(BG c),(DR mm)] (by(try dsimp only[Ea,GI,BD,Hz,BC,SG,FM,Tm,D7,D6,DL,DK,SC,CG,EN,BG,Et,DR,AP,BQ,Bl,FN]);simp only[ha44];rfl) ?_
   refine Bz (fun a w' hs=>⟨(AU c).length - (mm+1),by omega,n72,(mm+1),(psG.set ((y49.Au.Index).toNat) (⟨y68.Lock,y68.Fh,y68.State,y68.Root,(⟨ax70,cp71,(y68.Tables.xs++[y49.At / 16])⟩:Sl Int)⟩:Aj)),csG,rfl,by omega,by omega,by rw[List.length_set];exact hlp,hlc,by rw[hT];show _=List.set _ _ _;rw[List.map_set,←hps,KT (by omega),←hy68];rw[tabF_neg (p:=nP y68) (show ¬ y68.Root=0 from by omega)];rfl,by rw[hT];exact hcs,by(try dsimp only[Ea,GI,BD,Hz,BC,SG,FM,Tm,D7,D6,DL,DK,SC,CG,EN,BG,Et,DR,AP,BQ,Bl,FN]at hs ⊢);rw[hT,List.map_set];exact hs⟩)
  refine A8 10 0 [0] [[oF,o0],[(ov (i6 ((mm+1:Nat):Int))),o0]] [EF y49.Au.Kind 9,Wr ((mm:Int)+1) (((mm+1:Nat):Int))] [(AP z),(Bl b7),(8,i6 ((AY c mm).ch)),(CG c b42 o43 cp38),(BG c),(DR mm),(BQ y49)] rfl ⟨ef,Be,Ae⟩ ?_
  exfalso;omega
 refine q_c 19 0 [0] [[oF],[o0,(ov (i6 (((AY c mm).fin)+16))),(ov (i6 ((((AY c mm).fin)+16) - 1))),(ov (i6 (((((AY c mm).fin)+16) - 1) / 16))),o0,(a1 5)],[(an 4 5),(an 4 2),o0]] [BF ((mm:Int)<(((AU c).length:Nat):Int)),Wr (((AY c mm).fin:Int)+16) (((AY c mm).fin)+16),Wr ((((AY c mm).fin)+16:Int) - 1) ((((AY c mm).fin)+16) - 1),Wr (Int.tdiv ((((AY c mm).fin)+16) - 1) 16) (((((AY c mm).fin)+16) - 1) / 16),Qb b7,Qb b7,Qb b7,Qb b7,Qb b7,Qb (z+1),Qb (z+1),Qb (z+1),Qb (z+1)] [(AP z),(3,i6 0)] ⟨w,n40,[(Ak w),(BC c z),(bk (z+1) #[i6 ((AY c mm).bar),.slice (some ⟨b5,0,none⟩) c.Aa.xs.length c.Aa.xs.length,.slice (some ⟨b6,0,none⟩) c.Ac.xs.length c.Ac.xs.length,i6 (((((AY c mm).fin)+16) - 1) / 16)] 31),(D7 c b5 z psG),(D6 c b6 z csG),(bk b7 #[i6 ((AY c mm).bar),.slice (some ⟨b5,0,none⟩) c.Aa.xs.length c.Aa.xs.length,.slice (some ⟨b6,0,none⟩) c.Ac.xs.length c.Ac.xs.length,i6 (((((AY c mm).fin)+16) - 1) / 16)] 31),(mid n30 w36),(DK z csG),(DL z psG)]⟩ rfl ⟨bf,Be,Be,congrArg (Value.int .i64) (I5 (by omega) (by omega) (by omega)),rfl,rfl,rfl,rfl,rfl,rfl,rfl,rfl,rfl,Ae⟩ ?_
 refine AZ [.at 2,.at 2,.at 2,.at 2] [Qb (z+1),Qb (z+1),Qb (z+1),Qb (z+1)] (.tuple #[.agg #[i6 ((AY c mm).bar),.slice (some ⟨b5,0,none⟩) c.Aa.xs.length c.Aa.xs.length,.slice (some ⟨b6,0,none⟩) c.Ac.xs.length c.Ac.xs.length,i6 (((((AY c mm).fin)+16) - 1) / 16)],i6 0]) ⟨rfl,rfl,rfl,rfl,Ae⟩ ?_
 intro w74 hw74
 have hm:mm=(AU c).length:=by omega
 subst hm
 have hL:Lm c ⟨(AY c (AU c).length).bar,⟨(some ⟨b5,0,none⟩),c.Aa.xs.length,psG⟩,⟨(some ⟨b6,0,none⟩),c.Ac.xs.length,csG⟩,((AY c (AU c).length).fin+16 - 1) / 16⟩:=lay_of hfine hps hcs
 have hO:Og z w74 ⟨(AY c (AU c).length).bar,⟨(some ⟨b5,0,none⟩),c.Aa.xs.length,psG⟩,⟨(some ⟨b6,0,none⟩),c.Ac.xs.length,csG⟩,((AY c (AU c).length).fin+16 - 1) / 16⟩:=⟨w,by
  have h4:=hw74.pick [3,4,7,8] rfl rfl
  rw[hw74.size]
  unfold layS Sl.val
  simp only[hlp,hlc]
  exact h4⟩
 refine⟨_, ?_,hL,hz ▸ Ye hfine hL hO,hz ▸ hO,Bg hw74⟩
 simp only[Bj.arr,hlp,hlc]
end Go.Proofs.Ytlhjneaafhoipaa.Ly
