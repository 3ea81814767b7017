/- Packed: Bc, Bd, EngAc, Vg, Row. No conditions. -/
import Derived.Test.YtjdmhijaanmccaaDoorPm5
import Derived.Test.YtjdmhijaanmccaaDoorRows
import Derived.WalkKit
import Derived.ProofKit
import Derived.OpenShut
import Derived.ShutString
import Derived.ChangeOld
import Derived.Below
import Derived.Carry
import Derived.SizedLaws
set_option maxHeartbeats 4000000
namespace Go.Proofs.YtjdmhijaanmccaaDoor.Ad
open Go Go.Proofs.YtjdmhijaanmccaaDoor.Eng Go.Proofs.YtjdmhijaanmccaaDoor.Mem Go.Proofs.YtjdmhijaanmccaaDoor.Ly
set_option linter.unusedSimpArgs false
set_option linter.unusedVariables false
set_option maxRecDepth 100000
def Om(x:AZ):Bool:=win x.Kind 1 2&&win x.Words 1 16&&Eb x
theorem VZ{c:Ai}{h:Nat}{x:AZ}(e0:Lm c h=x)(hA:Om x=false):Dl c h=⟨415,⟨(h:Int), -1⟩⟩:=by
 unfold Dl;rw[e0,show(win x.Kind 1 2&&win x.Words 1 16&&Eb x)=false from hA];simp[AV,Af,AQ]
theorem chan_b{c:Ai}{h:Nat}{x:AZ}(e0:Lm c h=x)(hA:Om x=true)(hS:¬ (I9 c h:Int)=1):Dl c h=⟨416,⟨(h:Int), -1⟩⟩:=by
 unfold Dl;rw[e0,show(win x.Kind 1 2&&win x.Words 1 16&&Eb x)=true from hA,decide_eq_false (by omega)];simp[AV,Af,AQ]
theorem chan_c{c:Ai}{h:Nat}{x:AZ}(e0:Lm c h=x)(hA:Om x=true)(hS:(I9 c h:Int)=1)(hD:win (Bj c h:Nat) 1 (A7 x)=false):Dl c h=⟨417,⟨(h:Int), -1⟩⟩:=by
 unfold Dl;rw[e0,show(win x.Kind 1 2&&win x.Words 1 16&&Eb x)=true from hA,decide_eq_true (by omega),hD];simp[AV,Af,AQ]
theorem chan_d{c:Ai}{h:Nat}{x:AZ}(e0:Lm c h=x)(hA:Om x=true)(hS:(I9 c h:Int)=1)(hD:win (Bj c h:Nat) 1 (A7 x)=true):Dl c h=AQ:=by
 unfold Dl;rw[e0,show(win x.Kind 1 2&&win x.Words 1 16&&Eb x)=true from hA,decide_eq_true (by omega),hD];simp[AV,Af,AQ]
section
variable (z:Nat)
abbrev Rl:=(5,pt (z+1))
end
theorem Zm(w:World)(c:Ai)(hc:Ai.ok Any w c)(h:Nat)(hh:h<c.Aj.xs.length)(hm:c.Aa.xs.length≤1024)(hq:∀ p,p<c.Aa.xs.length→(gd c.Aa.xs p).Ap.xs.length≤1024):Calls Tryd.prog 23 #[.agg (Ai.arr c),.int .i64 (h:Int)] w fun e w'=>e = .returned (.int .i64 (Dl c h).e)∧CE (fun _=>False) w w':=by
 obtain⟨z,hz⟩:∃ z,z=w.heap.size:=⟨_,rfl⟩
 refine Cb (args:=[.agg (Ai.arr c),Ac h]) 68 ⟨w,z,[(Ak w)]⟩ Tryd.func23 rfl (by kernel_rfl) (by kernel_rfl) (Em hz) ?_
 have hpl:=hc.Aj.1.len
 refine DI [0,1] [(0,.agg (Ai.arr c)),(1,Ac h)] ?_
 refine q_c 5 0 [] [[o0,o0]] [] [(1,Ac h),(2,pt z)] ⟨w,z+1,[(Ak w),(bk z (Ai.arr c) 26)]⟩ rfl Ae ?_
 obtain⟨b1,o2,ha3,hF5,hc4⟩:=(hc.Aj).1.all (show 0<c.Aj.xs.length by omega)
 replace ha3:c.Aj.a=some ⟨b1,o2,none⟩:=ha3
 have hc6:=hc4 h (show h<c.Aj.xs.length by omega)
 have he7:=(hc.Aj).2 h (show h<c.Aj.xs.length by omega)
 obtain⟨y8,hy8⟩:∃ y_,y_=gd c.Aj.xs h:=⟨_,rfl⟩
 rw[←hy8]at he7 hc6
 have e0:Lm c h=y8:=hy8.symm
 refine q_c 4 0 [] [[o0,(E8 1 b1 o2 c.Aj),o0,(oi h),(ol 0 (AZ.arr y8)),o0,(an 3 2)]] [Qb z,DZ b1 o2 c.Aj,CW h,h<c.Aj.xs.length,Ce,GU w b1 (o2+h*3) (AZ.arr y8),Qb (z+1),Qb (z+1),Qb (z+1)] [(1,Ac h),(2,pt z),(Rl z)] ⟨w,z+2,[(Ak w),(bk z (Ai.arr c) 26),(bk (z+1) (AZ.arr y8) 115)]⟩ rfl ⟨rfl,Ea ha3,rfl,(by omega),rfl,Ei hc6,rfl,rfl,rfl,Ae⟩ ?_
 by_cases h9:(y8.Kind:Int)=2
 ·refine Au 6 10 [] [[o0,(a1 2),oT,o0],[o0,o0,o0,o0,o0,o0,(a1 2)]] [Qb (z+1),ET y8.Kind 2,Qb (z+1)] [(1,Ac h),(2,pt z),(Rl z),(6,.bool true),(24,.bool false),(26,i6 y8.Words)] rfl ⟨rfl,et,rfl,Ae⟩ ?_
  refine AY 43 #[i6 y8.Words,i6 1,i6 16] (some 27) (.bool (win y8.Words 1 16)) (fun w10 hw10=>Gj w10 y8.Words 1 16) (fun n11 (hn12:z+2≤n11) => ?_)
  refine Dc [1,2,5,6,24,27] [(1,Ac h),(2,pt z),(Rl z),(6,.bool true),(24,.bool false),(27,.bool (win y8.Words 1 16))] ?_
  by_cases h13:(win y8.Words 1 16)=true
  ·have hd14:=DD h13
   refine Bq 8 4 [0] [[(ov (.bool false)),o0],[o0,o0,o0,(a1 2)]] [Value.bool (!(win y8.Words 1 16))=Value.bool false,Qb (z+1)] [(1,Ac h),(2,pt z),(Rl z),(6,.bool true),(31,.bool true),(33,i6 y8.Dx)] rfl ⟨by simp[h13],rfl,Ae⟩ ?_
   refine AY 43 #[i6 y8.Dx,i6 1,i6 8] (some 34) (.bool (win y8.Dx 1 8)) (fun w15 hw15=>Gj w15 y8.Dx 1 8) (fun n16 (hn17:n11≤n16) => ?_)
   refine Dc [1,2,5,6,31,34] [(1,Ac h),(2,pt z),(Rl z),(6,.bool true),(31,.bool true),(34,.bool (win y8.Dx 1 8))] ?_
   by_cases h18:(win y8.Dx 1 8)=true
   ·have hd19:=DD h18
    refine Bq 7 2 [0] [[(ov (.bool false)),o0,o0,o0,o0,o0,o0,o0],[(an 7 1),o0]] [Value.bool (!(win y8.Dx 1 8))=Value.bool false,Qb z,Qb z,Qb z,Qb z,Qb z,Qb z,Qb z] [(6,.bool true),(47,.agg (Ai.arr c)),(48,Ac h)] rfl ⟨by simp[h18],rfl,rfl,rfl,rfl,rfl,rfl,rfl,Ae⟩ ?_
    refine AY 47 #[.agg (Ai.arr c),Ac h] (some 49) (.tuple #[i6 ((I9 c (h:Int):Nat):Int),i6 ((Bj c (h:Int):Nat):Int)]) (fun w20 hw20=>NE w20 c (hc.ext (hw20.ext rfl) (fun _ h=>h)) (h:Int) hm hq) (fun n21 (hn22:n16≤n21) => ?_)
    refine Bq 5 0 [] [[o0,o0,o0,o0,o0]] [] [(6,.bool true),(7,i6 ((I9 c (h:Int):Nat):Int)),(8,i6 ((Bj c (h:Int):Nat):Int))] rfl Ae ?_
    by_cases h23:(((I9 c (h:Int):Nat):Int):Int)=1
    ·refine Au 6 0 [0] [[o0,oF,o0]] [NF ((I9 c (h:Int):Nat):Int) 1] [(6,.bool true),(8,i6 ((Bj c (h:Int):Nat):Int)),(52,.bool false)] rfl ⟨nf,Ae⟩ ?_
     by_cases h24:(((Bj c (h:Int):Nat):Int):Int)=1
     ·refine Au 16 0 [0,0] [[o0,o0,o0,oF,o0,o0],[o0,o0,o0,o0,o0],[o0]] [NF ((Bj c (h:Int):Nat):Int) 1] [(4,i6 0)] rfl ⟨nf,Ae⟩ ?_
      refine Az [] [] (i6 0) Ae ?_
      intro w25 hw25
      have hk9:win y8.Kind 1 2=true:=(by unfold win;simp;omega)
      have hw9:win y8.Words 1 16=true:=h13
      have hd9:Eb y8=true:=(by unfold Eb;rw[if_pos h9];exact h18)
      have hm9:A7 y8=1:=(by unfold A7;rw[if_pos h9])
      have hq:Dl c h=_:=chan_d e0 (by unfold Om;simp[hk9,hw9,hd9]) h23 (by rw[hm9];first | assumption | (unfold win;simp;omega) | simpa using h24)
      exact⟨congrArg (fun t:Am=>Ending.returned (i6 t.e)) hq.symm,AA hw25⟩
     refine Au 12 0 [1,1] [[o0,o0,o0,oT,o0,o0],[o0]] [NT ((Bj c (h:Int):Nat):Int) 1] [(4,i6 417)] rfl ⟨nt,Ae⟩ ?_
     refine Az [] [] (i6 417) Ae ?_
     intro w26 hw26
     have hk9:win y8.Kind 1 2=true:=(by unfold win;simp;omega)
     have hw9:win y8.Words 1 16=true:=h13
     have hd9:Eb y8=true:=(by unfold Eb;rw[if_pos h9];exact h18)
     have hm9:A7 y8=1:=(by unfold A7;rw[if_pos h9])
     have hq:Dl c h=_:=chan_c e0 (by unfold Om;simp[hk9,hw9,hd9]) h23 (by rw[hm9];first | assumption | (unfold win;simp;omega) | simpa using h24)
     exact⟨congrArg (fun t:Am=>Ending.returned (i6 t.e)) hq.symm,AA hw26⟩
    refine Au 9 0 [1] [[o0,oT,o0],[o0]] [NT ((I9 c (h:Int):Nat):Int) 1] [(4,i6 416)] rfl ⟨nt,Ae⟩ ?_
    refine Az [] [] (i6 416) Ae ?_
    intro w27 hw27
    have hk9:win y8.Kind 1 2=true:=(by unfold win;simp;omega)
    have hw9:win y8.Words 1 16=true:=h13
    have hd9:Eb y8=true:=(by unfold Eb;rw[if_pos h9];exact h18)
    have hq:Dl c h=_:=chan_b e0 (by unfold Om;simp[hk9,hw9,hd9]) h23
    exact⟨congrArg (fun t:Am=>Ending.returned (i6 t.e)) hq.symm,AA hw27⟩
   have hd28:=FI h18
   refine Bq 8 0 [1] [[(ov (.bool true)),o0,o0,o0],[o0]] [Value.bool (!(win y8.Dx 1 8))=Value.bool true] [(4,i6 415)] rfl ⟨by simp[h18],Ae⟩ ?_
   refine Az [] [] (i6 415) Ae ?_
   intro w29 hw29
   have hk9:win y8.Kind 1 2=true:=(by unfold win;simp;omega)
   have hw9:win y8.Words 1 16=true:=h13
   have hd9:Eb y8=false:=(by unfold Eb;rw[if_pos h9];simpa using h18)
   have hq:Dl c h=_:=VZ e0 (by unfold Om;simp[hk9,hw9,hd9])
   exact⟨congrArg (fun t:Am=>Ending.returned (i6 t.e)) hq.symm,AA hw29⟩
  have hd30:=FI h13
  refine Bq 8 0 [1] [[(ov (.bool true)),o0],[o0]] [Value.bool (!(win y8.Words 1 16))=Value.bool true] [(4,i6 415)] rfl ⟨by simp[h13],Ae⟩ ?_
  refine Az [] [] (i6 415) Ae ?_
  intro w31 hw31
  have hk9:win y8.Kind 1 2=true:=(by unfold win;simp;omega)
  have hw9:win y8.Words 1 16=false:=(by simpa using h13)
  have hq:Dl c h=_:=VZ e0 (by unfold Om;simp[hk9,hw9])
  exact⟨congrArg (fun t:Am=>Ending.returned (i6 t.e)) hq.symm,AA hw31⟩
 refine Au 5 0 [] [[o0,(a1 2),oF,o0]] [Qb (z+1),EF y8.Kind 2] [(1,Ac h),(2,pt z),(Rl z),(6,.bool false)] rfl ⟨rfl,ef,Ae⟩ ?_
 by_cases h32:(y8.Kind:Int)=1
 ·refine Au 1 10 [] [[o0,o0,o0,o0,(a1 2),oF,o0,o0,o0,(a1 2)]] [Qb (z+1),NF y8.Kind 1,Qb (z+1)] [(1,Ac h),(2,pt z),(Rl z),(6,.bool false),(24,.bool false),(26,i6 y8.Words)] rfl ⟨rfl,nf,rfl,Ae⟩ ?_
  refine AY 43 #[i6 y8.Words,i6 1,i6 16] (some 27) (.bool (win y8.Words 1 16)) (fun w33 hw33=>Gj w33 y8.Words 1 16) (fun n34 (hn35:z+2≤n34) => ?_)
  refine Dc [1,2,5,6,24,27] [(1,Ac h),(2,pt z),(Rl z),(6,.bool false),(24,.bool false),(27,.bool (win y8.Words 1 16))] ?_
  by_cases h36:(win y8.Words 1 16)=true
  ·have hd37:=DD h36
   refine Bq 7 0 [0] [[(ov (.bool false)),o0]] [Value.bool (!(win y8.Words 1 16))=Value.bool false] [(1,Ac h),(2,pt z),(Rl z),(6,.bool false),(29,.bool false)] rfl ⟨by simp[h36],Ae⟩ ?_
   by_cases h38:(y8.Dx:Int)=0
   ·refine Au 8 2 [0] [[o0,o0,o0,o0,o0,o0,o0,o0,(a1 2),oF,o0,o0],[(an 7 1),o0]] [Qb (z+1),NF y8.Dx 0,Qb z,Qb z,Qb z,Qb z,Qb z,Qb z,Qb z] [(6,.bool false),(47,.agg (Ai.arr c)),(48,Ac h)] rfl ⟨rfl,nf,rfl,rfl,rfl,rfl,rfl,rfl,rfl,Ae⟩ ?_
    refine AY 47 #[.agg (Ai.arr c),Ac h] (some 49) (.tuple #[i6 ((I9 c (h:Int):Nat):Int),i6 ((Bj c (h:Int):Nat):Int)]) (fun w39 hw39=>NE w39 c (hc.ext (hw39.ext rfl) (fun _ h=>h)) (h:Int) hm hq) (fun n40 (hn41:n34≤n40) => ?_)
    refine Bq 5 0 [] [[o0,o0,o0,o0,o0]] [] [(6,.bool false),(7,i6 ((I9 c (h:Int):Nat):Int)),(8,i6 ((Bj c (h:Int):Nat):Int))] rfl Ae ?_
    by_cases h42:(((I9 c (h:Int):Nat):Int):Int)=1
    ·refine Au 11 4 [0,0] [[o0,oF,o0],[o0,o0,o0,o0],[o0,o0,o0,o0]] [NF ((I9 c (h:Int):Nat):Int) 1] [(63,.bool true),(64,i6 ((Bj c (h:Int):Nat):Int))] rfl ⟨nf,Ae⟩ ?_
     refine AY 43 #[i6 ((Bj c (h:Int):Nat):Int),i6 1,i6 4] (some 65) (.bool (win ((Bj c (h:Int):Nat):Int) 1 4)) (fun w43 hw43=>Gj w43 ((Bj c (h:Int):Nat):Int) 1 4) (fun n44 (hn45:n40≤n44) => ?_)
     refine Dc [63,65] [(63,.bool true),(65,.bool (win ((Bj c (h:Int):Nat):Int) 1 4))] ?_
     by_cases h46:(win ((Bj c (h:Int):Nat):Int) 1 4)=true
     ·have hd47:=DD h46
      refine Bq 11 0 [0] [[(ov (.bool false)),o0,o0],[o0]] [Value.bool (!(win ((Bj c (h:Int):Nat):Int) 1 4))=Value.bool false] [(4,i6 0)] rfl ⟨by simp[h46],Ae⟩ ?_
      refine Az [] [] (i6 0) Ae ?_
      intro w48 hw48
      have hk9:win y8.Kind 1 2=true:=(by unfold win;simp;omega)
      have hw9:win y8.Words 1 16=true:=h36
      have hd9:Eb y8=true:=(by unfold Eb;rw[if_neg h9];exact decide_eq_true h38)
      have hm9:A7 y8=4:=(by unfold A7;rw[if_neg h9])
      have hq:Dl c h=_:=chan_d e0 (by unfold Om;simp[hk9,hw9,hd9]) h42 (by rw[hm9];first | assumption | (unfold win;simp;omega) | simpa using h46)
      exact⟨congrArg (fun t:Am=>Ending.returned (i6 t.e)) hq.symm,AA hw48⟩
     have hd49:=FI h46
     refine Bq 8 0 [1] [[(ov (.bool true)),o0,o0],[o0]] [Value.bool (!(win ((Bj c (h:Int):Nat):Int) 1 4))=Value.bool true] [(4,i6 417)] rfl ⟨by simp[h46],Ae⟩ ?_
     refine Az [] [] (i6 417) Ae ?_
     intro w50 hw50
     have hk9:win y8.Kind 1 2=true:=(by unfold win;simp;omega)
     have hw9:win y8.Words 1 16=true:=h36
     have hd9:Eb y8=true:=(by unfold Eb;rw[if_neg h9];exact decide_eq_true h38)
     have hm9:A7 y8=4:=(by unfold A7;rw[if_neg h9])
     have hq:Dl c h=_:=chan_c e0 (by unfold Om;simp[hk9,hw9,hd9]) h42 (by rw[hm9];first | assumption | (unfold win;simp;omega) | simpa using h46)
     exact⟨congrArg (fun t:Am=>Ending.returned (i6 t.e)) hq.symm,AA hw50⟩
    refine Au 9 0 [1] [[o0,oT,o0],[o0]] [NT ((I9 c (h:Int):Nat):Int) 1] [(4,i6 416)] rfl ⟨nt,Ae⟩ ?_
    refine Az [] [] (i6 416) Ae ?_
    intro w51 hw51
    have hk9:win y8.Kind 1 2=true:=(by unfold win;simp;omega)
    have hw9:win y8.Words 1 16=true:=h36
    have hd9:Eb y8=true:=(by unfold Eb;rw[if_neg h9];exact decide_eq_true h38)
    have hq:Dl c h=_:=chan_b e0 (by unfold Om;simp[hk9,hw9,hd9]) h42
    exact⟨congrArg (fun t:Am=>Ending.returned (i6 t.e)) hq.symm,AA hw51⟩
   refine Au 9 0 [1] [[o0,o0,o0,o0,o0,o0,o0,o0,(a1 2),oT,o0,o0],[o0]] [Qb (z+1),NT y8.Dx 0] [(4,i6 415)] rfl ⟨rfl,nt,Ae⟩ ?_
   refine Az [] [] (i6 415) Ae ?_
   intro w52 hw52
   have hk9:win y8.Kind 1 2=true:=(by unfold win;simp;omega)
   have hw9:win y8.Words 1 16=true:=h36
   have hd9:Eb y8=false:=(by unfold Eb;rw[if_neg h9];exact decide_eq_false h38)
   have hq:Dl c h=_:=VZ e0 (by unfold Om;simp[hk9,hw9,hd9])
   exact⟨congrArg (fun t:Am=>Ending.returned (i6 t.e)) hq.symm,AA hw52⟩
  have hd53:=FI h36
  refine Bq 8 0 [1] [[(ov (.bool true)),o0],[o0]] [Value.bool (!(win y8.Words 1 16))=Value.bool true] [(4,i6 415)] rfl ⟨by simp[h36],Ae⟩ ?_
  refine Az [] [] (i6 415) Ae ?_
  intro w54 hw54
  have hk9:win y8.Kind 1 2=true:=(by unfold win;simp;omega)
  have hw9:win y8.Words 1 16=false:=(by simpa using h36)
  have hq:Dl c h=_:=VZ e0 (by unfold Om;simp[hk9,hw9])
  exact⟨congrArg (fun t:Am=>Ending.returned (i6 t.e)) hq.symm,AA hw54⟩
 refine Au 9 0 [1] [[o0,o0,o0,o0,(a1 2),oT,o0,o0,o0],[o0]] [Qb (z+1),NT y8.Kind 1] [(4,i6 415)] rfl ⟨rfl,nt,Ae⟩ ?_
 refine Az [] [] (i6 415) Ae ?_
 intro w55 hw55
 have hk9:win y8.Kind 1 2=false:=(by unfold win;simp;omega)
 have hq:Dl c h=_:=VZ e0 (by unfold Om;simp[hk9])
 exact⟨congrArg (fun t:Am=>Ending.returned (i6 t.e)) hq.symm,AA hw55⟩
section
variable (n15 k:Nat)(n z:Nat)(y24:Cf)(c:Ai)(w:World)
abbrev qwuf_0:=bk (n15+1) #[(Ac k),Ac n] 38
abbrev qwuf_1:=bk (z+1) #[(Ac k),Ac n] 38
abbrev UU:=bk (z+1) #[i6 0,i6 0] 38
abbrev qwuf_3:=bk n15 (Cf.arr y24) 101
abbrev QJ:=bk z (Ai.arr c) 26
abbrev P8:=(9,pt (n15+1))
abbrev FN:=(5,pt (z+1))
abbrev LJ:=(6,i6 (sumW (DT c k).xs n))
abbrev Pq:=(8,pt n15)
abbrev Rf:=[(Ak w),(QJ z c),(qwuf_1 k n z),(qwuf_3 n15 y24),(qwuf_0 n15 k n)]
abbrev Vx:=[(Ak w),(QJ z c),(UU z),(qwuf_3 n15 y24),(qwuf_0 n15 k n)]
end
theorem rcore_calls(w:World)(c:Ai)(hc:Ai.ok Any w c)(k:Nat)(hk:k<c.AX.xs.length):Calls Tryd.prog 25 #[.agg (Ai.arr c),.int .i64 (k:Int)] w fun e w'=>e = .returned (.tuple #[.int .i64 (DY c k).e,.agg #[.int .i64 (DY c k).Ag.First,.int .i64 (DY c k).Ag.Second]])∧CE (fun _=>False) w w':=by
 obtain⟨z,hz⟩:∃ z,z=w.heap.size:=⟨_,rfl⟩
 refine Cb (args:=[.agg (Ai.arr c),Ac k]) 84 ⟨w,z,[(Ak w)]⟩ Tryd.func25 rfl (by kernel_rfl) (by kernel_rfl) (Em hz) ?_
 have hpl:=hc.AX.1.len;have hpp:=hc.Aa.1.len
 refine DI [0,1] [(0,.agg (Ai.arr c)),(1,Ac k)] ?_
 refine q_c 6 0 [] [[o0,o0,o0]] [] [(1,Ac k),(2,pt z),(FN z)] ⟨w,z+2,[(Ak w),(QJ z c),(UU z)]⟩ rfl Ae ?_
 obtain⟨b1,o2,ha3,hF5,hc4⟩:=(hc.AX).1.all (show 0<c.AX.xs.length by omega)
 replace ha3:c.AX.a=some ⟨b1,o2,none⟩:=ha3
 have hc6:=hc4 k (show k<c.AX.xs.length by omega)
 have he7:=(hc.AX).2 k (show k<c.AX.xs.length by omega)
 obtain⟨y8,hy8⟩:∃ y_,y_=gd c.AX.xs k:=⟨_,rfl⟩
 rw[←hy8]at he7 hc6
 have hley8:y8.xs.length=(gd c.AX.xs k).xs.length:=(by rw[hy8]);have hyly8:=he7.1.len;have eCy8:DT c k=y8:=hy8.symm
 refine Au 1 6 [] [[o0,(E8 1 b1 o2 c.AX),o0,(oi k),(oa [.via 0 (.slice y8.a y8.xs.length y8.cap)]),o0]] [Qb z,DZ b1 o2 c.AX,CW k,k<c.AX.xs.length,Ce,Old w b1 (o2+k) (.slice y8.a y8.xs.length y8.cap)] [(1,Ac k),(2,pt z),(FN z),(15,Ac y8.xs.length)] rfl ⟨rfl,Ea ha3,rfl,(by omega),rfl,Aw (hc6 0 _ rfl),Ae⟩ ?_
 refine AY 43 #[(Ac y8.xs.length),i6 1,i6 16] (some 16) (.bool (win (y8.xs.length:Int) 1 16)) (fun w9 hw9=>Gj w9 (y8.xs.length:Int) 1 16) (fun n10 (hn11:z+2≤n10) => ?_)
 refine Dc [1,2,5,16] [(1,Ac k),(2,pt z),(FN z),(16,.bool (win (y8.xs.length:Int) 1 16))] ?_
 by_cases h12:(win (y8.xs.length:Int) 1 16)=true
 ·have hd13:=DD h12
  refine Bq 15 0 [0] [[(ov (.bool false))],[o0],[o0]] [Value.bool (!(win (y8.xs.length:Int) 1 16))=Value.bool false] [(1,Ac k),(2,pt z),(FN z),(6,i6 0),(7,i6 0)] rfl ⟨by simp[h12],Ae⟩ ?_
  refine Du (fun m a w'=>∃ (n15:Nat) (n:Nat),m=(gd c.AX.xs k).xs.length - n∧n10≤n15∧(n≤(gd c.AX.xs k).xs.length)∧(∀ a,a<n→F5 c k a=AQ)∧(0≤sumW (DT c k).xs n∧sumW (DT c k).xs n≤n*32768)∧St 84 [(1,Ac k),(2,pt z),(FN z),(LJ k n c),(7,Ac n)] [] ⟨w,n15,[(Ak w),(QJ z c),(UU z)]⟩ a w') ((gd c.AX.xs k).xs.length - 0) ?_ ?_
  ·intro a w' hs;exact⟨n10,0,rfl,Nat.le_refl _,Nat.zero_le _,fun i hi=>absurd hi (Nat.not_lt_zero i),by simp[sumW],hs⟩
  rintro m a w' ⟨n15,n,rfl,hn14,hkn,hf,hsu,hs⟩
  refine(?_:G Tryd.prog 84 [(1,Ac k),(2,pt z),(FN z),(LJ k n c),(7,Ac n)] [] ⟨w,n15,[(Ak w),(QJ z c),(UU z)]⟩ _ _ _) a w' hs
  clear hs a w'
  have hwc:=DD h12
  refine CB <| CB ?_
  by_cases h16:(n:Int)<(y8.xs.length:Int)
  ·refine Au 9 0 [1] [[o0,o0,(E8 1 b1 o2 c.AX),o0,(oi k),(oa [.via 0 (.slice y8.a y8.xs.length y8.cap)]),o0,oT]] [Qb z,DZ b1 o2 c.AX,CW k,k<c.AX.xs.length,Ce,Old w b1 (o2+k) (.slice y8.a y8.xs.length y8.cap),BT ((n:Int)<(y8.xs.length:Int))] [(1,Ac k),(2,pt z),(FN z),(LJ k n c),(7,Ac n),(27,.bool true)] rfl ⟨rfl,Ea ha3,rfl,(by omega),rfl,Aw (hc6 0 _ rfl),bt,Ae⟩ ?_
   obtain⟨b17,o18,ha19,hF21,hc20⟩:=(he7).1.all (show 0<y8.xs.length by omega)
   replace ha19:y8.a=some ⟨b17,o18,none⟩:=ha19
   have hc22:=hc20 n (show n<y8.xs.length by omega)
   have he23:=(he7).2 n (show n<y8.xs.length by omega)
   obtain⟨y24,hy24⟩:∃ y_,y_=gd y8.xs n:=⟨_,rfl⟩
   rw[←hy24]at he23 hc22
   have e0y24:gd (DT c k).xs n=y24:=(by rw[hy24,eCy8])
   refine q_c 11 6 [] [[o0,(E8 1 b1 o2 c.AX),o0,(oi k),⟨.auto [.via 0 (.slice y8.a y8.xs.length y8.cap)],some (.slice (some ⟨b17,o18,none⟩) y8.xs.length y8.cap)⟩,o0,(oi n),(ol 0 (Cf.arr y24)),o0,(an 3 3)],[o0,o0,o0,o0,(an 2 4)],[o0,(a1 3),o0,(a1 1),o0,(ov (i6 ((c.Aa.xs.length:Int) - 1)))]] [Qb z,DZ b1 o2 c.AX,CW k,k<c.AX.xs.length,Ce,Old w b1 (o2+k) (.slice y8.a y8.xs.length y8.cap),DZ b17 o18 y8,CW n,n<y8.xs.length,Ce,GU w b17 (o18+n*3) (Cf.arr y24),Qb n15,Qb n15,Qb n15,Qb (n15+1),Qb (n15+1),Qb n15,Qb z,Wr ((c.Aa.xs.length:Int) - 1) ((c.Aa.xs.length:Int) - 1)] [(1,Ac k),(2,pt z),(FN z),(LJ k n c),(7,Ac n),(Pq n15),(P8 n15),(43,i6 y24.Partition),(47,i6 ((c.Aa.xs.length:Int) - 1))] ⟨w,n15+2,(Vx n15 k n z y24 c w)⟩ rfl ⟨rfl,Ea ha3,rfl,(by omega),rfl,Aw (hc6 0 _ rfl),Ea ha19,rfl,(by omega),rfl,Ei hc22,rfl,rfl,rfl,rfl,rfl,rfl,rfl,BQ,Ae⟩ ?_
   refine AY 43 #[i6 y24.Partition,i6 (-1),i6 ((c.Aa.xs.length:Int) - 1)] (some 48) (.bool (win y24.Partition (-1) ((c.Aa.xs.length:Int) - 1))) (fun w25 hw25=>Gj w25 y24.Partition (-1) ((c.Aa.xs.length:Int) - 1)) (fun n26 (hn27:n15+2≤n26) => ?_)
   refine Dc [1,2,5,6,7,8,9,48] [(1,Ac k),(2,pt z),(FN z),(LJ k n c),(7,Ac n),(Pq n15),(P8 n15),(48,.bool (win y24.Partition (-1) ((c.Aa.xs.length:Int) - 1)))] ?_
   by_cases h28:(win y24.Partition (-1) ((c.Aa.xs.length:Int) - 1))=true
   ·have hd29:=DD h28
    refine Bq 0 4 [] [[(ov (.bool false)),o0,o0,(a1 3)]] [Value.bool (!(win y24.Partition (-1) ((c.Aa.xs.length:Int) - 1)))=Value.bool false,Qb n15] [(1,Ac k),(2,pt z),(FN z),(LJ k n c),(7,Ac n),(Pq n15),(P8 n15),(50,.bool false),(52,i6 y24.BM)] rfl ⟨by simp[h28],rfl,Ae⟩ ?_
    refine AY 43 #[i6 y24.BM,i6 1,i6 16384] (some 53) (.bool (win y24.BM 1 16384)) (fun w30 hw30=>Gj w30 y24.BM 1 16384) (fun n31 (hn32:n26≤n31) => ?_)
    refine Dc [1,2,5,6,7,8,9,50,53] [(1,Ac k),(2,pt z),(FN z),(LJ k n c),(7,Ac n),(Pq n15),(P8 n15),(50,.bool false),(53,.bool (win y24.BM 1 16384))] ?_
    by_cases h33:(win y24.BM 1 16384)=true
    ·have hd34:=DD h33
     refine Bq 5 2 [0] [[(ov (.bool false)),o0,o0],[o0,(a1 3)]] [Value.bool (!(win y24.BM 1 16384))=Value.bool false,Qb n15] [(1,Ac k),(2,pt z),(FN z),(LJ k n c),(7,Ac n),(Pq n15),(P8 n15),(59,i6 y24.AU)] rfl ⟨by simp[h33],rfl,Ae⟩ ?_
     refine AY 43 #[i6 y24.AU,i6 82,i6 16384] (some 60) (.bool (win y24.AU 82 16384)) (fun w35 hw35=>Gj w35 y24.AU 82 16384) (fun n36 (hn37:n31≤n36) => ?_)
     refine Dc [1,2,5,6,7,8,9,60] [(1,Ac k),(2,pt z),(FN z),(LJ k n c),(7,Ac n),(Pq n15),(P8 n15),(60,.bool (win y24.AU 82 16384))] ?_
     by_cases h38:(win y24.AU 82 16384)=true
     ·have hd39:=DD h38
      refine Bq 5 4 [0] [[(ov (.bool false)),o0],[(an 7 1),o0,o0,(a1 3)]] [Value.bool (!(win y24.AU 82 16384))=Value.bool false,Qb z,Qb z,Qb z,Qb z,Qb z,Qb z,Qb z,Qb n15] [(1,Ac k),(2,pt z),(FN z),(LJ k n c),(7,Ac n),(Pq n15),(P8 n15),(64,.agg (Ai.arr c)),(65,Ac k),(67,i6 y24.Partition)] rfl ⟨by simp[h38],rfl,rfl,rfl,rfl,rfl,rfl,rfl,rfl,Ae⟩ ?_
      refine AY 48 #[.agg (Ai.arr c),Ac k,i6 y24.Partition] (some 68) (.bool (Ik c k y24.Partition)) (fun w40 hw40=>rsplit_calls w40 c (hc.ext (hw40.ext rfl) (fun _ h=>h)) k hk y24.Partition (by have hpw:=DD h28;omega)) (fun n41 (hn42:n36≤n41) => ?_)
      refine Bq 2 0 [] [[o0]] [] [(1,Ac k),(2,pt z),(FN z),(LJ k n c),(7,Ac n),(Pq n15),(P8 n15),(63,.bool (Ik c k y24.Partition))] rfl Ae ?_
      by_cases h43:(Ik c k y24.Partition)=true
      ·refine g_true ?_ (congrArg Value.bool h43)
       refine CB <| DX 2 [0,1,2,3,4] (Vx n15 k n z y24 c w) rfl rfl ?_
       refine CU [(0,(an 2 4)),(1,o0)] [5,69,4] [Qb (n15+1),Qb (n15+1)] [true,true,false] [(FN z),(69,.agg #[(Ac k),Ac n]),(4,i6 422)] ⟨rfl,rfl,Ae⟩ ?_
       refine Bl 2 ?_
       refine BA (an 2 2) [5,4] [Qb (z+1),Qb (z+1)] [(FN z),(4,i6 422)] ⟨w,n41,(Rf n15 k n z y24 c w)⟩ [] ⟨rfl,rfl,Ae⟩ (.inl rfl) ?_
       refine DU 3 [0,1,2,3,4] (Rf n15 k n z y24 c w) rfl rfl ?_
       refine CO ?_
       refine BK [5,4] [(FN z),(4,i6 422)] ?_
       refine GG <| Ku <| Az [.at 2,.at 2] [Qb (z+1),Qb (z+1)] (.tuple #[i6 422,.agg #[(Ac k),Ac n]]) ⟨rfl,rfl,Ae⟩ ?_
       intro w44 hw44
       have hq:DY c k=⟨422,⟨(k:Int),(n:Int)⟩⟩:=(UQ (by dsimp only[DT];rw[←hley8];exact h12) hf (show n<(gd c.AX.xs k).xs.length by omega) (by unfold F5 MP;rw[e0y24];(try simp[AV,Af,AQ,h28,h33,h38,h43]))).trans (by unfold F5 MP;rw[e0y24];(try simp[AV,Af,AQ,h28,h33,h38,h43]))
       exact⟨congrArg (fun t:Am=>Ending.returned (.tuple #[i6 t.e,.agg #[i6 t.Ag.First,i6 t.Ag.Second]])) hq.symm,AA hw44⟩
      refine Au 10 0 [2] [[o0,o0,(a1 3),o0,(a1 3),(ov (i6 (y24.BM+y24.AU))),(ov (i6 ((sumW (DT c k).xs n)+(y24.BM+y24.AU)))),o0],[o0,(ov (i6 ((n+1:Nat):Int))),o0]] [Value.bool (Ik c k y24.Partition)=Value.bool false,Qb n15,Qb n15,Wr ((y24.BM:Int)+y24.AU) (y24.BM+y24.AU),Wr ((sumW (DT c k).xs n:Int)+(y24.BM+y24.AU)) ((sumW (DT c k).xs n)+(y24.BM+y24.AU)),Wr ((n:Int)+1) (((n+1:Nat):Int))] [(1,Ac k),(2,pt z),(FN z),(6,i6 ((sumW (DT c k).xs n)+(y24.BM+y24.AU))),(7,i6 ((n+1:Nat):Int))] rfl ⟨(congrArg Value.bool (Bool.eq_false_iff.2 h43)),rfl,rfl,BQ,BQ,BQ,Ae⟩ ?_
      refine BX [0,1,2] [(Ak w),(QJ z c),(UU z)] rfl rfl ?_
      have hcw:F5 c k n=AQ:=(by unfold F5 MP;rw[e0y24];simp[AV,Af,AQ,h28,h33,h38,h43])
      have hbd:=SN hcw
      have eS:=sumW_succ (DT c k).xs n
      rw[e0y24]at hbd eS
      have hss:0≤sumW (DT c k).xs (n+1)∧sumW (DT c k).xs (n+1)≤((n+1:Nat):Int)*32768:=(by rw[eS];omega)
      refine BK [1,2,5,6,7] [(1,Ac k),(2,pt z),(FN z),(6,i6 ((sumW (DT c k).xs n)+(y24.BM+y24.AU))),(7,i6 ((n+1:Nat):Int))] ?_
      refine BO (fun a w' hs=>⟨(gd c.AX.xs k).xs.length - (n+1),by omega,n41,(n+1),rfl,by omega,by omega,EP hf hcw,hss,(by(try dsimp only[qwuf_0,qwuf_1,UU,qwuf_3,QJ,FN,LJ,Rf]at hs ⊢);rw[eS];exact hs)⟩)
     have hd45:=FI h38
     refine Bq 4 0 [1] [[(ov (.bool true)),o0]] [Value.bool (!(win y24.AU 82 16384))=Value.bool true] [(1,Ac k),(2,pt z),(FN z),(LJ k n c),(7,Ac n),(Pq n15),(P8 n15),(57,.bool true)] rfl ⟨by simp[h38],Ae⟩ ?_
     refine DX 2 [0,1,2,3,4] (Vx n15 k n z y24 c w) rfl rfl ?_
     refine CU [(0,(an 2 4)),(1,o0)] [5,62,4] [Qb (n15+1),Qb (n15+1)] [true,true,false] [(FN z),(62,.agg #[(Ac k),Ac n]),(4,i6 420)] ⟨rfl,rfl,Ae⟩ ?_
     refine Bl 2 ?_
     refine BA (an 2 2) [5,4] [Qb (z+1),Qb (z+1)] [(FN z),(4,i6 420)] ⟨w,n36,(Rf n15 k n z y24 c w)⟩ [] ⟨rfl,rfl,Ae⟩ (.inl rfl) ?_
     refine DU 3 [0,1,2,3,4] (Rf n15 k n z y24 c w) rfl rfl ?_
     refine CO ?_
     refine BK [5,4] [(FN z),(4,i6 420)] ?_
     refine GG <| Ku <| Az [.at 2,.at 2] [Qb (z+1),Qb (z+1)] (.tuple #[i6 420,.agg #[(Ac k),Ac n]]) ⟨rfl,rfl,Ae⟩ ?_
     intro w46 hw46
     have hq:DY c k=⟨420,⟨(k:Int),(n:Int)⟩⟩:=(UQ (by dsimp only[DT];rw[←hley8];exact h12) hf (show n<(gd c.AX.xs k).xs.length by omega) (by unfold F5 MP;rw[e0y24];(try simp[AV,Af,AQ,h28,h33,h38]))).trans (by unfold F5 MP;rw[e0y24];(try simp[AV,Af,AQ,h28,h33,h38]))
     exact⟨congrArg (fun t:Am=>Ending.returned (.tuple #[i6 t.e,.agg #[i6 t.Ag.First,i6 t.Ag.Second]])) hq.symm,AA hw46⟩
    have hd47:=FI h33
    refine Bq 4 0 [1] [[(ov (.bool true)),o0,o0]] [Value.bool (!(win y24.BM 1 16384))=Value.bool true] [(1,Ac k),(2,pt z),(FN z),(LJ k n c),(7,Ac n),(Pq n15),(P8 n15),(41,.bool true)] rfl ⟨by simp[h33],Ae⟩ ?_
    refine DX 2 [0,1,2,3,4] (Vx n15 k n z y24 c w) rfl rfl ?_
    refine CU [(0,(an 2 4)),(1,o0)] [5,56,4] [Qb (n15+1),Qb (n15+1)] [true,true,false] [(FN z),(56,.agg #[(Ac k),Ac n]),(4,i6 419)] ⟨rfl,rfl,Ae⟩ ?_
    refine Bl 2 ?_
    refine BA (an 2 2) [5,4] [Qb (z+1),Qb (z+1)] [(FN z),(4,i6 419)] ⟨w,n31,(Rf n15 k n z y24 c w)⟩ [] ⟨rfl,rfl,Ae⟩ (.inl rfl) ?_
    refine DU 3 [0,1,2,3,4] (Rf n15 k n z y24 c w) rfl rfl ?_
    refine CO ?_
    refine BK [5,4] [(FN z),(4,i6 419)] ?_
    refine GG <| Ku <| Az [.at 2,.at 2] [Qb (z+1),Qb (z+1)] (.tuple #[i6 419,.agg #[(Ac k),Ac n]]) ⟨rfl,rfl,Ae⟩ ?_
    intro w48 hw48
    have hq:DY c k=⟨419,⟨(k:Int),(n:Int)⟩⟩:=(UQ (by dsimp only[DT];rw[←hley8];exact h12) hf (show n<(gd c.AX.xs k).xs.length by omega) (by unfold F5 MP;rw[e0y24];(try simp[AV,Af,AQ,h28,h33]))).trans (by unfold F5 MP;rw[e0y24];(try simp[AV,Af,AQ,h28,h33]))
    exact⟨congrArg (fun t:Am=>Ending.returned (.tuple #[i6 t.e,.agg #[i6 t.Ag.First,i6 t.Ag.Second]])) hq.symm,AA hw48⟩
   have hd49:=FI h28
   refine Bq 4 0 [1] [[(ov (.bool true)),o0,o0,o0]] [Value.bool (!(win y24.Partition (-1) ((c.Aa.xs.length:Int) - 1)))=Value.bool true] [(1,Ac k),(2,pt z),(FN z),(LJ k n c),(7,Ac n),(Pq n15),(P8 n15),(41,.bool true)] rfl ⟨by simp[h28],Ae⟩ ?_
   refine DX 2 [0,1,2,3,4] (Vx n15 k n z y24 c w) rfl rfl ?_
   refine CU [(0,(an 2 4)),(1,o0)] [5,56,4] [Qb (n15+1),Qb (n15+1)] [true,true,false] [(FN z),(56,.agg #[(Ac k),Ac n]),(4,i6 419)] ⟨rfl,rfl,Ae⟩ ?_
   refine Bl 2 ?_
   refine BA (an 2 2) [5,4] [Qb (z+1),Qb (z+1)] [(FN z),(4,i6 419)] ⟨w,n26,(Rf n15 k n z y24 c w)⟩ [] ⟨rfl,rfl,Ae⟩ (.inl rfl) ?_
   refine DU 3 [0,1,2,3,4] (Rf n15 k n z y24 c w) rfl rfl ?_
   refine CO ?_
   refine BK [5,4] [(FN z),(4,i6 419)] ?_
   refine GG <| Ku <| Az [.at 2,.at 2] [Qb (z+1),Qb (z+1)] (.tuple #[i6 419,.agg #[(Ac k),Ac n]]) ⟨rfl,rfl,Ae⟩ ?_
   intro w50 hw50
   have hq:DY c k=⟨419,⟨(k:Int),(n:Int)⟩⟩:=(UQ (by dsimp only[DT];rw[←hley8];exact h12) hf (show n<(gd c.AX.xs k).xs.length by omega) (by unfold F5 MP;rw[e0y24];(try simp[AV,Af,AQ,h28]))).trans (by unfold F5 MP;rw[e0y24];(try simp[AV,Af,AQ,h28]))
   exact⟨congrArg (fun t:Am=>Ending.returned (.tuple #[i6 t.e,.agg #[i6 t.Ag.First,i6 t.Ag.Second]])) hq.symm,AA hw50⟩
  refine Au 11 0 [0] [[o0,o0,(E8 1 b1 o2 c.AX),o0,(oi k),(oa [.via 0 (.slice y8.a y8.xs.length y8.cap)]),o0,oF]] [Qb z,DZ b1 o2 c.AX,CW k,k<c.AX.xs.length,Ce,Old w b1 (o2+k) (.slice y8.a y8.xs.length y8.cap),BF ((n:Int)<(y8.xs.length:Int))] [(1,Ac k),(2,pt z),(FN z),(LJ k n c),(7,Ac n),(27,.bool false)] rfl ⟨rfl,Ea ha3,rfl,(by omega),rfl,Aw (hc6 0 _ rfl),bf,Ae⟩ ?_
  by_cases h51:(sumW (DT c k).xs n:Int)=c.Gs
  ·refine Au 11 0 [0] [[o0,o0,(a1 1),oF],[o0,o0,(an 2 2)]] [Qb z,NF (sumW (DT c k).xs n) c.Gs,Qb (z+1),Qb (z+1)] [(FN z),(4,i6 0)] rfl ⟨rfl,nf,rfl,rfl,Ae⟩ ?_
   refine Az [.at 2,.at 2] [Qb (z+1),Qb (z+1)] (.tuple #[i6 0,.agg #[i6 0,i6 0]]) ⟨rfl,rfl,Ae⟩ ?_
   intro w52 hw52
   have hq:DY c k=⟨0,⟨0,0⟩⟩:=(XV (by dsimp only[DT];rw[←hley8];exact h12) hf (show n=(gd c.AX.xs k).xs.length by omega)).trans (by first | rw[decide_eq_true (by assumption)];rfl | rw[decide_eq_false (by assumption)];rfl)
   exact⟨congrArg (fun t:Am=>Ending.returned (.tuple #[i6 t.e,.agg #[i6 t.Ag.First,i6 t.Ag.Second]])) hq.symm,AA hw52⟩
  refine Au 6 1 [1] [[o0,o0,(a1 1),oT],[o0]] [Qb z,NT (sumW (DT c k).xs n) c.Gs] [(FN z),(81,Ac k)] rfl ⟨rfl,nt,Ae⟩ ?_
  refine AY 24 #[(Ac k)] (some 82) (.agg #[(Ac k),i6 (-1)]) (fun w53 hw53=>JJ w53 (k:Int)) (fun n54 (hn55:n15≤n54) => ?_)
  refine F8 3 0 [] [[o0,(an 2 2)]] [Qb (z+1),Qb (z+1)] [(FN z),(4,i6 421)] ⟨w,n54,[(Ak w),(QJ z c),(bk (z+1) #[(Ac k),i6 (-1)] 38)]⟩ rfl ⟨rfl,rfl,Ae⟩ ?_
  refine Az [.at 2,.at 2] [Qb (z+1),Qb (z+1)] (.tuple #[i6 421,.agg #[(Ac k),i6 (-1)]]) ⟨rfl,rfl,Ae⟩ ?_
  intro w56 hw56
  have hq:DY c k=⟨421,⟨(k:Int), -1⟩⟩:=(XV (by dsimp only[DT];rw[←hley8];exact h12) hf (show n=(gd c.AX.xs k).xs.length by omega)).trans (by first | rw[decide_eq_true (by assumption)];rfl | rw[decide_eq_false (by assumption)];rfl)
  exact⟨congrArg (fun t:Am=>Ending.returned (.tuple #[i6 t.e,.agg #[i6 t.Ag.First,i6 t.Ag.Second]])) hq.symm,AA hw56⟩
 have hd57:=FI h12
 refine Bq 5 1 [1] [[(ov (.bool true))],[o0]] [Value.bool (!(win (y8.xs.length:Int) 1 16))=Value.bool true] [(FN z),(18,Ac k)] rfl ⟨by simp[h12],Ae⟩ ?_
 refine AY 24 #[(Ac k)] (some 19) (.agg #[(Ac k),i6 (-1)]) (fun w58 hw58=>JJ w58 (k:Int)) (fun n59 (hn60:n10≤n59) => ?_)
 refine F8 3 0 [] [[o0,(an 2 2)]] [Qb (z+1),Qb (z+1)] [(FN z),(4,i6 418)] ⟨w,n59,[(Ak w),(QJ z c),(bk (z+1) #[(Ac k),i6 (-1)] 38)]⟩ rfl ⟨rfl,rfl,Ae⟩ ?_
 refine Az [.at 2,.at 2] [Qb (z+1),Qb (z+1)] (.tuple #[i6 418,.agg #[(Ac k),i6 (-1)]]) ⟨rfl,rfl,Ae⟩ ?_
 intro w61 hw61
 have hq:DY c k=⟨418,⟨(k:Int), -1⟩⟩:=coreQ_a (by dsimp only[DT];rw[←hley8];exact h12)
 exact⟨congrArg (fun t:Am=>Ending.returned (.tuple #[i6 t.e,.agg #[i6 t.Ag.First,i6 t.Ag.Second]])) hq.symm,AA hw61⟩
section
variable (z:Nat)(c:Ai)
abbrev Uu:=bk z (Ai.arr c) 26
end
theorem rarea_calls(w:World)(c:Ai)(hc:Ai.ok Any w c)(hFr:1≤c.Frames∧c.Frames≤1024)(hpf:∀ q,q<c.Aa.xs.length→CP c q=AQ):Calls Tryd.prog 26 #[.agg (Ai.arr c)] w fun e w'=>e = .returned (.bool (F9 c))∧CE (fun _=>False) w w':=by
 obtain⟨z,hz⟩:∃ z,z=w.heap.size:=⟨_,rfl⟩
 refine Cb (args:=[.agg (Ai.arr c)]) 75 ⟨w,z,[(Ak w)]⟩ Tryd.func26 rfl (by kernel_rfl) (by kernel_rfl) (Em hz) ?_
 have hpl:=hc.Aa.1.len;have hkk:(-9223372036854775808:Int)≤c.Kernel∧c.Kernel≤9223372036854775807:=hc.Kernel;have hrr:(-9223372036854775808:Int)≤c.Room∧c.Room≤9223372036854775807:=hc.Room
 refine DI [0] [(0,.agg (Ai.arr c))] ?_
 refine q_c 7 5 [] [[o0,o0],[o0,(a1 1),o0,(a1 1),(ov (i6 (c.Frames - 1)))]] [Qb z,Qb z,Wr ((c.Frames:Int) - 1) (c.Frames - 1)] [(1,pt z),(9,i6 c.Kernel),(12,i6 (c.Frames - 1))] ⟨w,z+1,[(Ak w),(Uu z c)]⟩ rfl ⟨rfl,rfl,BQ,Ae⟩ ?_
 refine AY 43 #[i6 c.Kernel,i6 0,i6 (c.Frames - 1)] (some 13) (.bool (win c.Kernel 0 (c.Frames - 1))) (fun w1 hw1=>Gj w1 c.Kernel 0 (c.Frames - 1)) (fun n2 (hn3:z+1≤n2) => ?_)
 refine Dc [1,13] [(1,pt z),(13,.bool (win c.Kernel 0 (c.Frames - 1)))] ?_
 by_cases h4:(win c.Kernel 0 (c.Frames - 1))=true
 ·have hd5:=DD h4
  refine Bq 0 9 [] [[(ov (.bool false)),o0,o0,(a1 1),o0,(a1 1),o0,(a1 1),(ov (i6 (c.Frames - c.Kernel)))]] [Value.bool (!(win c.Kernel 0 (c.Frames - 1)))=Value.bool false,Qb z,Qb z,Qb z,Wr ((c.Frames:Int) - c.Kernel) (c.Frames - c.Kernel)] [(1,pt z),(15,.bool false),(17,i6 c.Room),(22,i6 (c.Frames - c.Kernel))] rfl ⟨by simp[h4],rfl,rfl,rfl,BQ,Ae⟩ ?_
  refine AY 43 #[i6 c.Room,i6 1,i6 (c.Frames - c.Kernel)] (some 23) (.bool (win c.Room 1 (c.Frames - c.Kernel))) (fun w6 hw6=>Gj w6 c.Room 1 (c.Frames - c.Kernel)) (fun n7 (hn8:n2≤n7) => ?_)
  refine Dc [1,15,23] [(1,pt z),(15,.bool false),(23,.bool (win c.Room 1 (c.Frames - c.Kernel)))] ?_
  by_cases h9:(win c.Room 1 (c.Frames - c.Kernel))=true
  ·have hd10:=DD h9
   refine Bq 11 0 [0] [[(ov (.bool false)),o0],[o0]] [Value.bool (!(win c.Room 1 (c.Frames - c.Kernel)))=Value.bool false] [(1,pt z),(3,i6 0)] rfl ⟨by simp[h9],Ae⟩ ?_
   refine Du (fun m a w'=>∃ (n12:Nat) (q:Nat),m=c.Aa.xs.length - q∧n7≤n12∧(q≤c.Aa.xs.length)∧(∀ a,a<q→Uc c a=false)∧St 75 [(1,pt z),(3,Ac q)] [] ⟨w,n12,[(Ak w),(Uu z c)]⟩ a w') (c.Aa.xs.length - 0) ?_ ?_
   ·intro a w' hs;exact⟨n7,0,rfl,Nat.le_refl _,Nat.zero_le _,fun i hi=>absurd hi (Nat.not_lt_zero i),hs⟩
   rintro m a w' ⟨n12,q,rfl,hn11,hkq,hg,hs⟩
   refine(?_:G Tryd.prog 75 [(1,pt z),(3,Ac q)] [] ⟨w,n12,[(Ak w),(Uu z c)]⟩ _ _ _) a w' hs
   clear hs a w'
   have hw1:=DD h4
   have hw2:=DD h9
   refine CB <| CB ?_
   by_cases h13:(q:Int)<(c.Aa.xs.length:Int)
   ·refine Au 13 0 [1] [[o0,o0,(a1 1),o0,oT],[o0]] [Qb z,BT ((q:Int)<(c.Aa.xs.length:Int))] [(1,pt z),(3,Ac q),(4,i6 0)] rfl ⟨rfl,bt,Ae⟩ ?_
    refine Du (fun m a w'=>∃ (n15:Nat) (n:Nat),m=(gd c.Aa.xs q).Ah.xs.length - n∧n12≤n15∧(n≤(gd c.Aa.xs q).Ah.xs.length)∧(∀ a,a<n→Wx c q a=false)∧St 75 [(1,pt z),(3,Ac q),(4,Ac n)] [] ⟨w,n15,[(Ak w),(Uu z c)]⟩ a w') ((gd c.Aa.xs q).Ah.xs.length - 0) ?_ ?_
    ·intro a w' hs;exact⟨n12,0,rfl,Nat.le_refl _,Nat.zero_le _,fun i hi=>absurd hi (Nat.not_lt_zero i),hs⟩
    rintro m a w' ⟨n15,n,rfl,hn14,hkn,hh,hs⟩
    refine(?_:G Tryd.prog 75 [(1,pt z),(3,Ac q),(4,Ac n)] [] ⟨w,n15,[(Ak w),(Uu z c)]⟩ _ _ _) a w' hs
    clear hs a w'
    refine CB <| CB ?_
    obtain⟨b16,o17,ha18,hF20,hc19⟩:=(hc.Aa).1.all (show 0<c.Aa.xs.length by omega)
    replace ha18:c.Aa.a=some ⟨b16,o17,none⟩:=ha18
    have hc21:=hc19 q (show q<c.Aa.xs.length by omega)
    have he22:=(hc.Aa).2 q (show q<c.Aa.xs.length by omega)
    obtain⟨y23,hy23⟩:∃ y_,y_=gd c.Aa.xs q:=⟨_,rfl⟩
    rw[←hy23]at he22 hc21
    have hley23:y23.Ah.xs.length=(gd c.Aa.xs q).Ah.xs.length:=(by rw[hy23]);have hyly23:=he22.Ah.1.len
    by_cases h24:(n:Int)<(y23.Ah.xs.length:Int)
    ·refine Au 9 0 [1] [[o0,o0,(E8 1 b16 o17 c.Aa),o0,(oi q),o0,(oa [.via 0 (.slice y23.Ah.a y23.Ah.xs.length y23.Ah.cap)]),o0,oT]] [Qb z,DZ b16 o17 c.Aa,CW q,q<c.Aa.xs.length,Ce,Old w b16 (o17+q*8+6) (.slice y23.Ah.a y23.Ah.xs.length y23.Ah.cap),BT ((n:Int)<(y23.Ah.xs.length:Int))] [(1,pt z),(3,Ac q),(4,Ac n),(41,.bool true)] rfl ⟨rfl,Ea ha18,rfl,(by omega),rfl,Aw (hc21 6 _ rfl),bt,Ae⟩ ?_
     obtain⟨b25,o26,ha27,hF29,hc28⟩:=(he22.Ah).1.all (show 0<y23.Ah.xs.length by omega)
     replace ha27:y23.Ah.a=some ⟨b25,o26,none⟩:=ha27
     have hc30:=hc28 n (show n<y23.Ah.xs.length by omega)
     have he31:=(he22.Ah).2 n (show n<y23.Ah.xs.length by omega)
     obtain⟨y32,hy32⟩:∃ y_,y_=gd y23.Ah.xs n:=⟨_,rfl⟩
     rw[←hy32]at he31 hc30
     have e0y32:DV c q n=y32:=(by dsimp only[DV];rw[hy32,hy23])
     refine q_c 5 8 [] [[o0,(E8 1 b16 o17 c.Aa),o0,(oi q),o0,⟨.auto [.via 0 (.slice y23.Ah.a y23.Ah.xs.length y23.Ah.cap)],some (.slice (some ⟨b25,o26,none⟩) y23.Ah.xs.length y23.Ah.cap)⟩,o0,(oi n),(ol 0 (BB.arr y32)),o0,(an 4 2)],[o0,(a1 2),o0,(a1 2),o0,(a1 1),o0,(a1 1)]] [Qb z,DZ b16 o17 c.Aa,CW q,q<c.Aa.xs.length,Ce,Old w b16 (o17+q*8+6) (.slice y23.Ah.a y23.Ah.xs.length y23.Ah.cap),DZ b25 o26 y23.Ah,CW n,n<y23.Ah.xs.length,Ce,GU w b25 (o26+n*4) (BB.arr y32),Qb n15,Qb n15,Qb n15,Qb n15,Qb n15,Qb n15,Qb z,Qb z] [(1,pt z),(3,Ac q),(4,Ac n),(54,i6 y32.Frame),(56,i6 y32.AL),(58,i6 c.Kernel),(60,i6 c.Room)] ⟨w,n15+1,[(Ak w),(Uu z c),(bk n15 (BB.arr y32) 103)]⟩ rfl ⟨rfl,Ea ha18,rfl,(by omega),rfl,Aw (hc21 6 _ rfl),Ea ha27,rfl,(by omega),rfl,Ei hc30,rfl,rfl,rfl,rfl,rfl,rfl,rfl,rfl,Ae⟩ ?_
     have hm34:=Uh hFr.2 (Ot (hpf q (by omega))) n (by dsimp only[Ey];omega);rw[e0y32]at hm34;unfold Bd at hm34
     refine AY 49 #[i6 y32.Frame,i6 y32.AL,i6 c.Kernel,i6 c.Room] (some 61) (.bool (meet y32.Frame y32.AL c.Kernel c.Room)) (fun w33 hw33=>Si w33 y32.Frame y32.AL c.Kernel c.Room (by omega) (by omega) (by omega) (by omega)) (fun n35 (hn36:n15+1≤n35) => ?_)
     refine Dc [1,3,4,61] [(1,pt z),(3,Ac q),(4,Ac n),(61,.bool (meet y32.Frame y32.AL c.Kernel c.Room))] ?_
     refine U5 (by kernel_rfl) ?_
     refine GG ?_
     by_cases h37:(meet y32.Frame y32.AL c.Kernel c.Room)=true
     ·refine Au 6 0 [3] [[o0]] [Value.bool (meet y32.Frame y32.AL c.Kernel c.Room)=Value.bool true] [(2,.bool false)] rfl ⟨(congrArg Value.bool h37),Ae⟩ ?_
      refine Az [] [] (.bool false) Ae ?_
      intro w38 hw38
      refine⟨congrArg (fun b=>Ending.returned (Value.bool b)) (?_:false=F9 c),AA hw38⟩
      have eo:(List.range c.Aa.xs.length).any (Uc c)=true:=range_any (k:=q) (by omega) (range_any (k:=n) (by dsimp only[Ey];omega) (by unfold Wx;rw[e0y32];exact h37))
      unfold F9;simp[eo]
     refine Au 6 0 [2] [[o0,(ov (i6 ((n+1:Nat):Int))),o0]] [Value.bool (meet y32.Frame y32.AL c.Kernel c.Room)=Value.bool false,Wr ((n:Int)+1) (((n+1:Nat):Int))] [(1,pt z),(3,Ac q),(4,i6 ((n+1:Nat):Int))] rfl ⟨(congrArg Value.bool (Bool.eq_false_iff.2 h37)),BQ,Ae⟩ ?_
     refine BX [0,1] [(Ak w),(Uu z c)] rfl rfl ?_
     refine BK [1,3,4] [(1,pt z),(3,Ac q),(4,i6 ((n+1:Nat):Int))] ?_
     refine BO (fun a w' hs=>⟨(gd c.Aa.xs q).Ah.xs.length - (n+1),by omega,n35,(n+1),rfl,by omega,by omega,EP hh (by unfold Wx;rw[e0y32];simpa using h37),hs⟩)
    refine Au 12 0 [0] [[o0,o0,(E8 1 b16 o17 c.Aa),o0,(oi q),o0,(oa [.via 0 (.slice y23.Ah.a y23.Ah.xs.length y23.Ah.cap)]),o0,oF],[o0,(ov (i6 ((q+1:Nat):Int))),o0]] [Qb z,DZ b16 o17 c.Aa,CW q,q<c.Aa.xs.length,Ce,Old w b16 (o17+q*8+6) (.slice y23.Ah.a y23.Ah.xs.length y23.Ah.cap),BF ((n:Int)<(y23.Ah.xs.length:Int)),Wr ((q:Int)+1) (((q+1:Nat):Int))] [(1,pt z),(3,i6 ((q+1:Nat):Int))] rfl ⟨rfl,Ea ha18,rfl,(by omega),rfl,Aw (hc21 6 _ rfl),bf,BQ,Ae⟩ ?_
    refine BO (fun a w' hs=>⟨c.Aa.xs.length - (q+1),by omega,n15,(q+1),rfl,by omega,by omega,EP hg (Gu (fun i hi=>hh i (by dsimp only[Ey]at hi;omega))),hs⟩)
   refine Au 11 1 [0] [[o0,o0,(a1 1),o0,oF],[(an 7 1)]] [Qb z,BF ((q:Int)<(c.Aa.xs.length:Int)),Qb z,Qb z,Qb z,Qb z,Qb z,Qb z,Qb z] [(1,pt z),(63,.agg (Ai.arr c))] rfl ⟨rfl,bf,rfl,rfl,rfl,rfl,rfl,rfl,rfl,Ae⟩ ?_
   refine AY 50 #[.agg (Ai.arr c)] (some 64) (.tuple #[i6 (JL c),i6 (errOf c)]) (fun w39 hw39=>rneed_calls w39 c (hc.ext (hw39.ext rfl) (fun _ h=>h))) (fun n40 (hn41:n12≤n40) => ?_)
   refine Bq 3 0 [] [[o0,o0,o0,o0,o0]] [] [(1,pt z),(6,i6 (JL c)),(7,i6 (errOf c))] rfl Ae ?_
   by_cases h42:(errOf c:Int)=0
   ·by_cases h43:(c.Room:Int)<JL c
    ·refine Au 4 0 [] [[o0,oT,o0,o0,o0,(a1 1),oF,o0,o0]] [ET (errOf c) 0,Qb z,BF ((JL c:Int)≤c.Room)] [(2,.bool false)] rfl ⟨et,rfl,bf,Ae⟩ ?_
     refine Az [] [] (.bool false) Ae ?_
     intro w44 hw44
     refine⟨congrArg (fun b=>Ending.returned (Value.bool b)) (?_:false=F9 c),AA hw44⟩
     have eo:(List.range c.Aa.xs.length).any (Uc c)=false:=Gu (fun i hi=>hg i (by omega))
     unfold F9;rw[eo];simp[h4,h9];first | done | omega
    refine Au 4 0 [] [[o0,oT,o0,o0,o0,(a1 1),oT,o0,o0]] [ET (errOf c) 0,Qb z,BT ((JL c:Int)≤c.Room)] [(2,.bool true)] rfl ⟨et,rfl,bt,Ae⟩ ?_
    refine Az [] [] (.bool true) Ae ?_
    intro w45 hw45
    refine⟨congrArg (fun b=>Ending.returned (Value.bool b)) (?_:true=F9 c),AA hw45⟩
    have eo:(List.range c.Aa.xs.length).any (Uc c)=false:=Gu (fun i hi=>hg i (by omega))
    unfold F9;rw[eo];simp[h4,h9];first | done | omega
   refine Au 4 0 [] [[o0,oF,o0,o0,o0]] [EF (errOf c) 0] [(2,.bool false)] rfl ⟨ef,Ae⟩ ?_
   refine Az [] [] (.bool false) Ae ?_
   intro w46 hw46
   refine⟨congrArg (fun b=>Ending.returned (Value.bool b)) (?_:false=F9 c),AA hw46⟩
   have eo:(List.range c.Aa.xs.length).any (Uc c)=false:=Gu (fun i hi=>hg i (by omega))
   unfold F9;rw[eo];simp[h4,h9];first | done | omega
  have hd47:=FI h9
  refine Bq 8 0 [1] [[(ov (.bool true)),o0],[o0]] [Value.bool (!(win c.Room 1 (c.Frames - c.Kernel)))=Value.bool true] [(2,.bool false)] rfl ⟨by simp[h9],Ae⟩ ?_
  refine Az [] [] (.bool false) Ae ?_
  intro w48 hw48
  refine⟨congrArg (fun b=>Ending.returned (Value.bool b)) (?_:false=F9 c),AA hw48⟩
  unfold F9;simp[h4,h9]
 have hd49:=FI h4
 refine Bq 8 0 [1] [[(ov (.bool true)),o0,o0],[o0]] [Value.bool (!(win c.Kernel 0 (c.Frames - 1)))=Value.bool true] [(2,.bool false)] rfl ⟨by simp[h4],Ae⟩ ?_
 refine Az [] [] (.bool false) Ae ?_
 intro w50 hw50
 refine⟨congrArg (fun b=>Ending.returned (Value.bool b)) (?_:false=F9 c),AA hw50⟩
 unfold F9;simp[h4]
section
variable {c:Ai}
theorem WL(hW:Gh c=AQ):∀ i,i<5→gd (answers c) i=AQ:=fun i hi=>by
 rw[Vl hi];exact XT hW i hi
theorem X9{n:Nat}(hW:Gh c=AQ)(hP:∀ a,a<c.Aa.xs.length→5+a<n→CP c a=AQ)(hH:∀ a,a<c.Aj.xs.length→5+c.Aa.xs.length+a<n→Dl c a=AQ)(hK:∀ a,a<c.AX.xs.length→5+c.Aa.xs.length+c.Aj.xs.length+a<n→DY c a=AQ)(hn:n≤5+c.Aa.xs.length+c.Aj.xs.length+c.AX.xs.length):∀ i,i<n→gd (answers c) i=AQ:=by
 intro i hi
 rcases Nat.lt_or_ge i 5 with g | g
 ·exact WL hW i g
 rcases Nat.lt_or_ge i (5+c.Aa.xs.length)with g1 | g1
 ·obtain⟨p,rfl⟩:∃ p,i=5+p:=⟨i - 5,by omega⟩
  rw[VL (by omega)];exact hP p (by omega) hi
 rcases Nat.lt_or_ge i (5+c.Aa.xs.length+c.Aj.xs.length)with g2 | g2
 ·obtain⟨p,rfl⟩:∃ p,i=5+c.Aa.xs.length+p:=⟨i - (5+c.Aa.xs.length),by omega⟩
  rw[YF (by omega)];exact hH p (by omega) hi
 obtain⟨p,rfl⟩:∃ p,i=5+c.Aa.xs.length+c.Aj.xs.length+p:=⟨i - (5+c.Aa.xs.length+c.Aj.xs.length),by omega⟩
 rw[YM (by omega)];exact hK p (by omega) hi
theorem check_w(hne:Gh c≠AQ):EI c=Gh c:=by
 unfold EI answers
 rw[List.append_assoc,List.append_assoc,List.append_assoc,Zn,if_neg (show ¬ AV [Gm c,whole2 c,Gg c,Gi c,FH c]=AQ from hne)];rfl
theorem check_p{p:Nat}(hW:Gh c=AQ)(hf:∀ a,a<p→CP c a=AQ)(hp:p<c.Aa.xs.length)(hne:CP c p≠AQ):EI c=CP c p :=
 (N7 (k:=5+p) (by rw[GL];omega) (X9 hW (fun a _ h=>hf a (by omega)) (fun a _ h=>by omega) (fun a _ h=>by omega) (by omega)) (by rw[VL hp];exact hne)).trans (VL hp)
theorem check_h{h:Nat}(hW:Gh c=AQ)(hP:∀ a,a<c.Aa.xs.length→CP c a=AQ)(hf:∀ a,a<h→Dl c a=AQ)(hh:h<c.Aj.xs.length)(hne:Dl c h≠AQ):EI c=Dl c h :=
 (N7 (k:=5+c.Aa.xs.length+h) (by rw[GL];omega) (X9 hW (fun a ha _=>hP a ha) (fun a _ h=>hf a (by omega)) (fun a _ h=>by omega) (by omega)) (by rw[YF hh];exact hne)).trans (YF hh)
theorem check_k{k:Nat}(hW:Gh c=AQ)(hP:∀ a,a<c.Aa.xs.length→CP c a=AQ)(hH:∀ a,a<c.Aj.xs.length→Dl c a=AQ)(hf:∀ a,a<k→DY c a=AQ)(hk:k<c.AX.xs.length)(hne:DY c k≠AQ):EI c=DY c k :=
 (N7 (k:=5+c.Aa.xs.length+c.Aj.xs.length+k) (by rw[GL];omega) (X9 hW (fun a ha _=>hP a ha) (fun a ha _=>hH a ha) (fun a _ h=>hf a (by omega)) (by omega)) (by rw[YM hk];exact hne)).trans (YM hk)
theorem check_e(hW:Gh c=AQ)(hP:∀ a,a<c.Aa.xs.length→CP c a=AQ)(hH:∀ a,a<c.Aj.xs.length→Dl c a=AQ)(hK:∀ a,a<c.AX.xs.length→DY c a=AQ):EI c=Ir c:=by
 have hpre:=X9 (n:=5+c.Aa.xs.length+c.Aj.xs.length+c.AX.xs.length) hW (fun a ha _=>hP a ha) (fun a ha _=>hH a ha) (fun a ha _=>hK a ha) (Nat.le_refl _)
 by_cases e:Ir c=AQ
 ·rw[e]
  exact Zl fun i hi=>by
   rw[GL]at hi
   by_cases e2:i=5+c.Aa.xs.length+c.Aj.xs.length+c.AX.xs.length
   ·rw[e2,YW];exact e
   exact hpre i (by omega)
 exact(N7 (by rw[GL];omega) hpre (by rw[YW];exact e)).trans YW
theorem whole_at:Gh c=AQ∨(¬ (Gh c).e=0∧(Gh c).Ag=⟨-1, -1⟩):=by
 have h:∀ x∈[Gm c,whole2 c,Gg c,Gi c,FH c],x=AQ∨(¬ x.e=0∧x.Ag=⟨-1, -1⟩):=by
  intro x hx
  simp only[List.mem_cons,List.not_mem_nil,or_false]at hx
  rcases hx with rfl | rfl | rfl | rfl | rfl
  ·unfold Gm;cases win c.Frames 1 1024 <;> simp[Af,AQ]
  ·unfold whole2;cases win c.Gs 1 16384 <;> simp[Af,AQ]
  ·unfold Gg;cases win (c.AX.xs.length:Int) 1 4 <;> simp[Af,AQ]
  ·unfold Gi;cases win (c.Aa.xs.length:Int) 1 8 <;> simp[Af,AQ]
  unfold FH;cases decide ((c.Aj.xs.length:Int)≤16) <;> simp[Af,AQ]
 unfold Gh
 generalize [Gm c,whole2 c,Gg c,Gi c,FH c]=l at h
 induction l with
 | nil=>exact .inl rfl
 | cons x r ih =>
  unfold AV
  by_cases e:x=AQ
  ·rw[if_pos e];exact ih fun y hy=>h y (List.mem_cons_of_mem _ hy)
  rw[if_neg e];exact h x (List.mem_cons_self ..)
theorem VM:(Gh c).e=0↔Gh c=AQ:=by
 constructor
 ·intro h;rcases whole_at (c:=c)with e | e
  ·exact e
  exact absurd h e.1
 intro h;rw[h];rfl
theorem chan_at(h:Nat):Dl c h=AQ∨(¬ (Dl c h).e=0∧(Dl c h).Ag=⟨(h:Int), -1⟩):=by
 unfold Dl
 cases(win (Lm c h).Kind 1 2&&win (Lm c h).Words 1 16&&Eb (Lm c h)) <;> cases decide ((I9 c h:Nat)=(1:Int)) <;> cases win (Bj c h:Nat) 1 (A7 (Lm c h)) <;> simp[AV,Af,AQ]
theorem frames_w(hW:Gh c=AQ):1≤c.Frames∧c.Frames≤1024:=Wu (n:=5) (WL hW) (by decide)
theorem parts_w(hW:Gh c=AQ):c.Aa.xs.length≤1024:=parts_of (n:=5) (WL hW) (by decide)
theorem ports_w(hP:∀ a,a<c.Aa.xs.length→CP c a=AQ):∀ p,p<c.Aa.xs.length→(gd c.Aa.xs p).Ap.xs.length≤1024:=fun p hp=>by
 have h:=(Nz (Zv (hP p hp))).1
 have h2:=Nb h _ (List.mem_cons_of_mem _ (List.mem_cons_self ..))
 rw[Ic (by decide)]at h2
 have:=of_decide_eq_true h2
 simp only[Ey]at this
 omega
end
section
variable (z:Nat)(c:Ai)(p k:Nat)(n28 n9:Nat)
abbrev qjhh_0:=bk (z+1) #[i6 ((CP c p).Ag.First),i6 ((CP c p).Ag.Second)] 38
abbrev qjhh_1:=bk (z+1) #[i6 ((DY c k).Ag.First),i6 ((DY c k).Ag.Second)] 38
abbrev YN:=bk n28 #[i6 ((DY c k).Ag.First),i6 ((DY c k).Ag.Second)] 38
abbrev YD:=bk n9 #[i6 ((CP c p).Ag.First),i6 ((CP c p).Ag.Second)] 38
abbrev NU:=bk (z+1) #[i6 0,i6 0] 38
abbrev JO:=bk z (Ai.arr c) 26
abbrev FO:=(3,pt (z+1))
end
theorem Ui(w:World)(c:Ai)(hc:Ai.ok Any w c):Calls Tryd.prog 9 #[.agg (Ai.arr c)] w fun e w'=>e = .returned (.tuple #[.int .i64 (EI c).e,.agg #[.int .i64 (EI c).Ag.First,.int .i64 (EI c).Ag.Second]])∧CE (fun _=>False) w w':=by
 obtain⟨z,hz⟩:∃ z,z=w.heap.size:=⟨_,rfl⟩
 refine Cb (args:=[.agg (Ai.arr c)]) 73 ⟨w,z,[(Ak w)]⟩ Tryd.func9 rfl (by kernel_rfl) (by kernel_rfl) (Em hz) ?_
 have hpl:=hc.Aa.1.len;have hpc:=hc.AX.1.len;have hpch:=hc.Aj.1.len
 refine DI [0] [(0,.agg (Ai.arr c))] ?_
 refine q_c 6 1 [] [[o0,o0,o0],[(an 7 1)]] [Qb z,Qb z,Qb z,Qb z,Qb z,Qb z,Qb z] [(1,pt z),(FO z),(13,.agg (Ai.arr c))] ⟨w,z+2,[(Ak w),(JO z c),(NU z)]⟩ rfl ⟨rfl,rfl,rfl,rfl,rfl,rfl,rfl,Ae⟩ ?_
 refine AY 20 #[.agg (Ai.arr c)] (some 14) (i6 ((Gh c).e)) (fun w1 hw1=>rwhole_calls w1 c (hc.ext (hw1.ext rfl) (fun _ h=>h))) (fun n2 (hn3:z+2≤n2) => ?_)
 refine Bq 4 0 [] [[o0]] [] [(1,pt z),(FO z),(4,i6 ((Gh c).e))] rfl Ae ?_
 by_cases h4:((Gh c).e:Int)=0
 ·have hW:=VM.1 h4;have hFr:=frames_w hW
  refine Au 12 0 [0] [[o0,oF],[o0]] [NF ((Gh c).e) 0] [(1,pt z),(FO z),(5,i6 0)] rfl ⟨nf,Ae⟩ ?_
  refine Du (fun m a w'=>∃ (n6:Nat) (p:Nat),m=c.Aa.xs.length - p∧n2≤n6∧(p≤c.Aa.xs.length)∧(∀ a,a<p→CP c a=AQ)∧St 73 [(1,pt z),(FO z),(5,Ac p)] [] ⟨w,n6,[(Ak w),(JO z c),(NU z)]⟩ a w') (c.Aa.xs.length - 0) ?_ ?_
  ·intro a w' hs;exact⟨n2,0,rfl,Nat.le_refl _,Nat.zero_le _,fun i hi=>absurd hi (Nat.not_lt_zero i),hs⟩
  rintro m a w' ⟨n6,p,rfl,hn5,hkp,hf1,hs⟩
  refine(?_:G Tryd.prog 73 [(1,pt z),(FO z),(5,Ac p)] [] ⟨w,n6,[(Ak w),(JO z c),(NU z)]⟩ _ _ _) a w' hs
  clear hs a w'
  refine CB <| CB ?_
  by_cases h7:(p:Int)<(c.Aa.xs.length:Int)
  ·have hp0:p<c.Aa.xs.length:=by omega
   refine Au 10 2 [1] [[o0,o0,(a1 1),o0,oT],[(an 7 1),o0]] [Qb z,BT ((p:Int)<(c.Aa.xs.length:Int)),Qb z,Qb z,Qb z,Qb z,Qb z,Qb z,Qb z] [(1,pt z),(FO z),(5,Ac p),(27,.agg (Ai.arr c)),(28,Ac p)] rfl ⟨rfl,bt,rfl,rfl,rfl,rfl,rfl,rfl,rfl,Ae⟩ ?_
   refine AY 22 #[.agg (Ai.arr c),Ac p] (some 29) (.tuple #[i6 ((CP c p).e),.agg #[i6 ((CP c p).Ag.First),i6 ((CP c p).Ag.Second)]]) (fun w8 hw8=>Yi w8 c (hc.ext (hw8.ext rfl) (fun _ h=>h)) p hp0 hFr hf1) (fun n9 (hn10:n6≤n9) => ?_)
   refine F8 3 0 [] [[o0,o0,o0,o0,o0,(an 2 3)]] [Qb n9,Qb n9] [(1,pt z),(FO z),(5,Ac p),(7,pt n9),(6,i6 ((CP c p).e))] ⟨w,n9+1,[(Ak w),(JO z c),(NU z),(YD c p n9)]⟩ rfl ⟨rfl,rfl,Ae⟩ ?_
   by_cases h11:((CP c p).e:Int)=0
   ·refine Au 9 0 [0] [[o0,oF],[o0,(ov (i6 ((p+1:Nat):Int))),o0]] [NF ((CP c p).e) 0,Wr ((p:Int)+1) (((p+1:Nat):Int))] [(1,pt z),(FO z),(5,i6 ((p+1:Nat):Int))] rfl ⟨nf,BQ,Ae⟩ ?_
    refine BX [0,1,2] [(Ak w),(JO z c),(NU z)] rfl rfl ?_
    refine BK [1,3,5] [(1,pt z),(FO z),(5,i6 ((p+1:Nat):Int))] ?_
    refine BO (fun a w' hs=>⟨c.Aa.xs.length - (p+1),by omega,(n9+1),(p+1),rfl,by omega,by omega,EP hf1 ((Uz (Yg c p)).1 h11),hs⟩)
   refine Au 5 0 [1] [[o0,oT]] [NT ((CP c p).e) 0] [(1,pt z),(FO z),(5,Ac p),(7,pt n9),(6,i6 ((CP c p).e)),(33,.bool true)] rfl ⟨nt,Ae⟩ ?_
   refine DX 3 [0,1,2,3] [(Ak w),(JO z c),(NU z),(YD c p n9)] rfl rfl ?_
   refine CU [(0,o0),(1,(an 2 3)),(2,o0)] [3,35,2] [Qb n9,Qb n9] [true,true,true,false] [(FO z),(35,.agg #[i6 ((CP c p).Ag.First),i6 ((CP c p).Ag.Second)]),(2,i6 ((CP c p).e))] ⟨rfl,rfl,Ae⟩ ?_
   refine Bl 3 ?_
   refine BA (an 2 2) [3,2] [Qb (z+1),Qb (z+1)] [(FO z),(2,i6 ((CP c p).e))] ⟨w,n9+1,[(Ak w),(JO z c),(qjhh_0 z c p),(YD c p n9)]⟩ [] ⟨rfl,rfl,Ae⟩ (.inl rfl) ?_
   refine DU 4 [0,1,2,3] [(Ak w),(JO z c),(qjhh_0 z c p),(YD c p n9)] rfl rfl ?_
   refine CO ?_
   refine BK [3,2] [(FO z),(2,i6 ((CP c p).e))] ?_
   refine GG <| Ku <| Az [.at 2,.at 2] [Qb (z+1),Qb (z+1)] (.tuple #[i6 ((CP c p).e),.agg #[i6 ((CP c p).Ag.First),i6 ((CP c p).Ag.Second)]]) ⟨rfl,rfl,Ae⟩ ?_
   intro w12 hw12
   have hq:=check_p hW hf1 hp0 (fun e=>h11 ((Uz (Yg c p)).2 e))
   exact⟨congrArg Ending.returned (by rw[hq]),AA hw12⟩
  refine Au 15 0 [0] [[o0,o0,(a1 1),o0,oF],[o0]] [Qb z,BF ((p:Int)<(c.Aa.xs.length:Int))] [(1,pt z),(FO z),(8,i6 0)] rfl ⟨rfl,bf,Ae⟩ ?_
  refine Du (fun m a w'=>∃ (n14:Nat) (h:Nat),m=c.Aj.xs.length - h∧n6≤n14∧(h≤c.Aj.xs.length)∧(∀ a,a<h→Dl c a=AQ)∧St 73 [(1,pt z),(FO z),(8,Ac h)] [] ⟨w,n14,[(Ak w),(JO z c),(NU z)]⟩ a w') (c.Aj.xs.length - 0) ?_ ?_
  ·intro a w' hs;exact⟨n6,0,rfl,Nat.le_refl _,Nat.zero_le _,fun i hi=>absurd hi (Nat.not_lt_zero i),hs⟩
  rintro m a w' ⟨n14,h,rfl,hn13,hkh,hf2,hs⟩
  refine(?_:G Tryd.prog 73 [(1,pt z),(FO z),(8,Ac h)] [] ⟨w,n14,[(Ak w),(JO z c),(NU z)]⟩ _ _ _) a w' hs
  clear hs a w'
  have hP:∀ a,a<c.Aa.xs.length→CP c a=AQ:=fun a ha=>hf1 a (by omega)
  refine CB <| CB ?_
  by_cases h15:(h:Int)<(c.Aj.xs.length:Int)
  ·have hh0:h<c.Aj.xs.length:=by omega
   refine Au 10 2 [1] [[o0,o0,(a1 1),o0,oT],[(an 7 1),o0]] [Qb z,BT ((h:Int)<(c.Aj.xs.length:Int)),Qb z,Qb z,Qb z,Qb z,Qb z,Qb z,Qb z] [(1,pt z),(FO z),(8,Ac h),(43,.agg (Ai.arr c)),(44,Ac h)] rfl ⟨rfl,bt,rfl,rfl,rfl,rfl,rfl,rfl,rfl,Ae⟩ ?_
   refine AY 23 #[.agg (Ai.arr c),Ac h] (some 45) (i6 ((Dl c h).e)) (fun w16 hw16=>Zm w16 c (hc.ext (hw16.ext rfl) (fun _ h=>h)) h hh0 (parts_w hW) (ports_w hP)) (fun n17 (hn18:n14≤n17) => ?_)
   refine Bq 3 0 [] [[o0]] [] [(1,pt z),(FO z),(8,Ac h),(9,i6 ((Dl c h).e))] rfl Ae ?_
   by_cases h19:((Dl c h).e:Int)=0
   ·refine Au 9 0 [0] [[o0,oF],[o0,(ov (i6 ((h+1:Nat):Int))),o0]] [NF ((Dl c h).e) 0,Wr ((h:Int)+1) (((h+1:Nat):Int))] [(1,pt z),(FO z),(8,i6 ((h+1:Nat):Int))] rfl ⟨nf,BQ,Ae⟩ ?_
    refine BO (fun a w' hs=>⟨c.Aj.xs.length - (h+1),by omega,n17,(h+1),rfl,by omega,by omega,EP hf2 ((Uz (VP c h)).1 h19),hs⟩)
   refine Au 6 2 [1] [[o0,oT],[o0,o0]] [NT ((Dl c h).e) 0] [(FO z),(48,i6 ((Dl c h).e)),(49,Ac h)] rfl ⟨nt,Ae⟩ ?_
   refine AY 24 #[(Ac h)] (some 50) (.agg #[(Ac h),i6 (-1)]) (fun w20 hw20=>JJ w20 (h:Int)) (fun n21 (hn22:n17≤n21) => ?_)
   refine F8 3 0 [] [[o0,(an 2 2)]] [Qb (z+1),Qb (z+1)] [(FO z),(2,i6 ((Dl c h).e))] ⟨w,n21,[(Ak w),(JO z c),(bk (z+1) #[(Ac h),i6 (-1)] 38)]⟩ rfl ⟨rfl,rfl,Ae⟩ ?_
   refine Az [.at 2,.at 2] [Qb (z+1),Qb (z+1)] (.tuple #[i6 ((Dl c h).e),.agg #[(Ac h),i6 (-1)]]) ⟨rfl,rfl,Ae⟩ ?_
   intro w23 hw23
   have hw9:(Dl c h).Ag=⟨(h:Int), -1⟩:=by rcases chan_at (c:=c) h with e | e;exact absurd ((Uz (VP c h)).2 e) h19;exact e.2
   have hq:=check_h hW hP hf2 hh0 (fun e=>h19 ((Uz (VP c h)).2 e))
   exact⟨congrArg Ending.returned (by rw[hq,hw9]),AA hw23⟩
  refine Au 15 0 [0] [[o0,o0,(a1 1),o0,oF],[o0]] [Qb z,BF ((h:Int)<(c.Aj.xs.length:Int))] [(1,pt z),(FO z),(10,i6 0)] rfl ⟨rfl,bf,Ae⟩ ?_
  refine Du (fun m a w'=>∃ (n25:Nat) (k:Nat),m=c.AX.xs.length - k∧n14≤n25∧(k≤c.AX.xs.length)∧(∀ a,a<k→DY c a=AQ)∧St 73 [(1,pt z),(FO z),(10,Ac k)] [] ⟨w,n25,[(Ak w),(JO z c),(NU z)]⟩ a w') (c.AX.xs.length - 0) ?_ ?_
  ·intro a w' hs;exact⟨n14,0,rfl,Nat.le_refl _,Nat.zero_le _,fun i hi=>absurd hi (Nat.not_lt_zero i),hs⟩
  rintro m a w' ⟨n25,k,rfl,hn24,hkk,hf3,hs⟩
  refine(?_:G Tryd.prog 73 [(1,pt z),(FO z),(10,Ac k)] [] ⟨w,n25,[(Ak w),(JO z c),(NU z)]⟩ _ _ _) a w' hs
  clear hs a w'
  have hP:∀ a,a<c.Aa.xs.length→CP c a=AQ:=fun a ha=>hf1 a (by omega)
  have hH:∀ a,a<c.Aj.xs.length→Dl c a=AQ:=fun a ha=>hf2 a (by omega)
  refine CB <| CB ?_
  by_cases h26:(k:Int)<(c.AX.xs.length:Int)
  ·have hk0:k<c.AX.xs.length:=by omega
   refine Au 10 2 [1] [[o0,o0,(a1 1),o0,oT],[(an 7 1),o0]] [Qb z,BT ((k:Int)<(c.AX.xs.length:Int)),Qb z,Qb z,Qb z,Qb z,Qb z,Qb z,Qb z] [(1,pt z),(FO z),(10,Ac k),(59,.agg (Ai.arr c)),(60,Ac k)] rfl ⟨rfl,bt,rfl,rfl,rfl,rfl,rfl,rfl,rfl,Ae⟩ ?_
   refine AY 25 #[.agg (Ai.arr c),Ac k] (some 61) (.tuple #[i6 ((DY c k).e),.agg #[i6 ((DY c k).Ag.First),i6 ((DY c k).Ag.Second)]]) (fun w27 hw27=>rcore_calls w27 c (hc.ext (hw27.ext rfl) (fun _ h=>h)) k hk0) (fun n28 (hn29:n25≤n28) => ?_)
   refine F8 3 0 [] [[o0,o0,o0,o0,o0,(an 2 3)]] [Qb n28,Qb n28] [(1,pt z),(FO z),(10,Ac k),(12,pt n28),(11,i6 ((DY c k).e))] ⟨w,n28+1,[(Ak w),(JO z c),(NU z),(YN c k n28)]⟩ rfl ⟨rfl,rfl,Ae⟩ ?_
   by_cases h30:((DY c k).e:Int)=0
   ·refine Au 9 0 [0] [[o0,oF],[o0,(ov (i6 ((k+1:Nat):Int))),o0]] [NF ((DY c k).e) 0,Wr ((k:Int)+1) (((k+1:Nat):Int))] [(1,pt z),(FO z),(10,i6 ((k+1:Nat):Int))] rfl ⟨nf,BQ,Ae⟩ ?_
    refine BX [0,1,2] [(Ak w),(JO z c),(NU z)] rfl rfl ?_
    refine BK [1,3,10] [(1,pt z),(FO z),(10,i6 ((k+1:Nat):Int))] ?_
    refine BO (fun a w' hs=>⟨c.AX.xs.length - (k+1),by omega,(n28+1),(k+1),rfl,by omega,by omega,EP hf3 ((Uz (Yx c k)).1 h30),hs⟩)
   refine Au 5 0 [1] [[o0,oT]] [NT ((DY c k).e) 0] [(1,pt z),(FO z),(10,Ac k),(12,pt n28),(11,i6 ((DY c k).e)),(65,.bool true)] rfl ⟨nt,Ae⟩ ?_
   refine DX 3 [0,1,2,3] [(Ak w),(JO z c),(NU z),(YN c k n28)] rfl rfl ?_
   refine CU [(0,o0),(1,(an 2 3)),(2,o0)] [3,67,2] [Qb n28,Qb n28] [true,true,true,false] [(FO z),(67,.agg #[i6 ((DY c k).Ag.First),i6 ((DY c k).Ag.Second)]),(2,i6 ((DY c k).e))] ⟨rfl,rfl,Ae⟩ ?_
   refine Bl 3 ?_
   refine BA (an 2 2) [3,2] [Qb (z+1),Qb (z+1)] [(FO z),(2,i6 ((DY c k).e))] ⟨w,n28+1,[(Ak w),(JO z c),(qjhh_1 z c k),(YN c k n28)]⟩ [] ⟨rfl,rfl,Ae⟩ (.inl rfl) ?_
   refine DU 4 [0,1,2,3] [(Ak w),(JO z c),(qjhh_1 z c k),(YN c k n28)] rfl rfl ?_
   refine CO ?_
   refine BK [3,2] [(FO z),(2,i6 ((DY c k).e))] ?_
   refine GG <| Ku <| Az [.at 2,.at 2] [Qb (z+1),Qb (z+1)] (.tuple #[i6 ((DY c k).e),.agg #[i6 ((DY c k).Ag.First),i6 ((DY c k).Ag.Second)]]) ⟨rfl,rfl,Ae⟩ ?_
   intro w31 hw31
   have hq:=check_k hW hP hH hf3 hk0 (fun e=>h30 ((Uz (Yx c k)).2 e))
   exact⟨congrArg Ending.returned (by rw[hq]),AA hw31⟩
  refine Au 12 1 [0] [[o0,o0,(a1 1),o0,oF],[(an 7 1)]] [Qb z,BF ((k:Int)<(c.AX.xs.length:Int)),Qb z,Qb z,Qb z,Qb z,Qb z,Qb z,Qb z] [(FO z),(68,.agg (Ai.arr c))] rfl ⟨rfl,bf,rfl,rfl,rfl,rfl,rfl,rfl,rfl,Ae⟩ ?_
  refine AY 26 #[.agg (Ai.arr c)] (some 69) (.bool (F9 c)) (fun w32 hw32=>rarea_calls w32 c (hc.ext (hw32.ext rfl) (fun _ h=>h)) hFr hP) (fun n33 (hn34:n25≤n33) => ?_)
  refine Dc [3,69] [(FO z),(69,.bool (F9 c))] ?_
  by_cases h35:(F9 c)=true
  ·refine Bq 10 0 [0] [[(ov (.bool false))],[o0,o0,(an 2 2)]] [Value.bool (!(F9 c))=Value.bool false,Qb (z+1),Qb (z+1)] [(FO z),(2,i6 0)] rfl ⟨by simp[h35],rfl,rfl,Ae⟩ ?_
   refine Az [.at 2,.at 2] [Qb (z+1),Qb (z+1)] (.tuple #[i6 0,.agg #[i6 0,i6 0]]) ⟨rfl,rfl,Ae⟩ ?_
   intro w36 hw36
   have hq:EI c=⟨0,⟨0,0⟩⟩:=(check_e hW hP hH (fun a ha=>hf3 a (by omega))).trans (by unfold Ir;rw[show F9 c=true from by simpa using h35];rfl)
   exact⟨congrArg Ending.returned (by rw[hq]),AA hw36⟩
  refine Bq 5 0 [1] [[(ov (.bool true))]] [Value.bool (!(F9 c))=Value.bool true] [(FO z),(70,.bool true)] rfl ⟨by simp[h35],Ae⟩ ?_
  refine AY 21 #[] (some 71) (.agg #[i6 (-1),i6 (-1)]) (fun w37 hw37=>XW w37 ) (fun n38 (hn39:n33≤n38) => ?_)
  refine F8 3 0 [] [[o0,(an 2 2)]] [Qb (z+1),Qb (z+1)] [(FO z),(2,i6 423)] ⟨w,n38,[(Ak w),(JO z c),(bk (z+1) #[i6 (-1),i6 (-1)] 38)]⟩ rfl ⟨rfl,rfl,Ae⟩ ?_
  refine Az [.at 2,.at 2] [Qb (z+1),Qb (z+1)] (.tuple #[i6 423,.agg #[i6 (-1),i6 (-1)]]) ⟨rfl,rfl,Ae⟩ ?_
  intro w40 hw40
  have hq:EI c=⟨423,⟨-1, -1⟩⟩:=(check_e hW hP hH (fun a ha=>hf3 a (by omega))).trans (by unfold Ir;rw[show F9 c=false from by simpa using h35];rfl)
  exact⟨congrArg Ending.returned (by rw[hq]),AA hw40⟩
 refine Au 6 1 [1] [[o0,oT],[o0]] [NT ((Gh c).e) 0] [(FO z),(17,i6 ((Gh c).e))] rfl ⟨nt,Ae⟩ ?_
 refine AY 21 #[] (some 18) (.agg #[i6 (-1),i6 (-1)]) (fun w41 hw41=>XW w41 ) (fun n42 (hn43:n2≤n42) => ?_)
 refine F8 3 0 [] [[o0,(an 2 2)]] [Qb (z+1),Qb (z+1)] [(FO z),(2,i6 ((Gh c).e))] ⟨w,n42,[(Ak w),(JO z c),(bk (z+1) #[i6 (-1),i6 (-1)] 38)]⟩ rfl ⟨rfl,rfl,Ae⟩ ?_
 refine Az [.at 2,.at 2] [Qb (z+1),Qb (z+1)] (.tuple #[i6 ((Gh c).e),.agg #[i6 (-1),i6 (-1)]]) ⟨rfl,rfl,Ae⟩ ?_
 intro w44 hw44
 have hw9:(Gh c).Ag=⟨-1, -1⟩:=by rcases whole_at (c:=c)with e | e;exact absurd (VM.2 e) h4;exact e.2
 have hq:=check_w (fun e=>h4 (VM.2 e))
 exact⟨congrArg Ending.returned (by rw[hq,hw9]),AA hw44⟩
end Go.Proofs.YtjdmhijaanmccaaDoor.Ad
namespace Go.Proofs.YtjdmhijaanmccaaDoor.Eng
open Go Go.Proofs.YtjdmhijaanmccaaDoor.Mem
set_option linter.unusedSimpArgs false
set_option linter.unusedVariables false
abbrev PE:=Int×Int×Value×Nat
def pk(a b:Int):Value:= .agg #[.int .i64 a,.int .i64 b]
def ent(x:PE):MapEntry:={ key:=pk x.1 x.2.1,val:=x.2.2.1,born:=x.2.2.2 }
def Rx(L:List PE)(c:Nat):Obj:= .map (L.map ent).toArray c
def LW(b:Nat)(L:List PE)(c:Nat):Ch:= .blk b (Rx L c) true
def LV(a b:Int):List PE→Nat→Option (Nat×Value)
 | [],_=>none
 | x :: r,i=>if a=x.1∧b=x.2.1 then some (i,x.2.2.1)else LV a b r (i+1)
structure JB(P:Program)(tk:TypeId):Prop where
 eq:∀ a b a' b':Int,Yp P 4 tk #[.int .i64 a,.int .i64 b] #[.int .i64 a',.int .i64 b']=some ((a==a')&&((b==b')&&true))
 ck:∀ (em:Bool) (a b:Int) (A:AW),Ee P true (Instr.checkKey em 10000 tk (pk a b)) [] A=some ([],[],(),A)
 st:∃ fs,P.underlying tk=some (.struct fs)
section
variable {P:Program}{tk t te:TypeId}{w:World}{b c:Nat}{L:List PE}
theorem JB.equal(h:JB P tk)(a b a' b':Int)(w:World):(Op.equal tk (pk a b) (pk a' b')).run P w = .ok (decide (a=a'∧b=b')) w:=by
 have e:=Yu (P:=P) 9995 4 tk _ _ _ (h.eq a b a' b') w
 show(Op.equalIn 10000 tk (pk a b) (pk a' b')).run P w=_
 unfold pk
 rw[show(10000:Nat)=9995+1+4 from rfl,e]
 congr 1
 rw[Bool.and_true]
 by_cases h1:a=a' <;> by_cases h2:b=b' <;> simp[h1,h2]
theorem JB.check(h:JB P tk)(em:Bool)(a b:Int)(w:World):(Instr.checkKey em 10000 tk (pk a b)).run P w = .ok () w :=
 (QZ _ _ _ _ _ _ _ (h.ck em a b ⟨w,0,[]⟩) Ae w (fun c hc=>by cases hc)).1
theorem JB.asking(h:JB P tk)(a b:Int)(w:World):∀ (L:List PE) (i:Nat),(Instr.findAsking tk (pk a b) (L.map ent) i).run P w = .ok (LV a b L i) w
 | [],i=>by simp[Instr.findAsking,LV]
 | x :: L,i=>by
  have ih:=h.asking a b w L (i+1)
  have e:=h.equal a b x.1 x.2.1 w
  rw[List.map_cons,Instr.findAsking]
  simp only[Sem.run_bind,show(ent x).key=pk x.1 x.2.1 from rfl,e,Result.andThen_ok,LV]
  by_cases hx:a=x.1∧b=x.2.1
  ·simp[hx,ent]
  simp only[hx,decide_false,Bool.false_eq_true,if_false]
  exact ih
theorem JB.find(h:JB P tk)(a b:Int)(w:World)(L:List PE):(Instr.findKey tk (pk a b) (L.map ent)).run P w = .ok (LV a b L 0) w:=by
 obtain⟨fs,hs⟩:=h.st
 rw[←h.asking a b w L 0]
 cases L with
 | nil=>simp[Instr.findKey,run_underlying hs,Instr.findNow,Instr.findAsking]
 | cons x L=>simp[Instr.findKey,run_underlying hs,Instr.findNow,Instr.sameNow]
theorem run_lookP(h:JB P tk)(hm:P.underlying t=some (.map tk te))(hb:w.heap[b]? = some (Rx L c)){f:TypeInfo}{z:Value}(hf:P.info? te=some f)(hz:f.zero=some z)(x y:Int)(hk:LV x y L 0=none)(ok:Bool) :
   (Instr.lookup t (.map (some b)) (pk x y) ok).run P w = .ok (if ok then .tuple #[z,.bool false]else z) w:=by
 have hj:=h.find x y w L
 rw[hk]at hj
 have hze:(zeroValue te).run P w = .ok z w:=by simp[zeroValue,typeInfo,program,Sem.run,hf,hz]
 simp[Instr.lookup,run_underlying hm,getObj,Sem.run,hb,Rx,h.check,hj,hze]
theorem run_updP(h:JB P tk)(hm:P.underlying t=some (.map tk te))(hb:w.heap[b]? = some (Rx L c))(x y:Int)(v:Value)(hk:LV x y L 0=none) :
   (Instr.mapUpdate t (.map (some b)) (pk x y) v).run P w = .ok () { w with heap:=w.heap.setIfInBounds b (Rx (L++[(x,y,v,c)]) (c+1)) }:=by
 have hj:=h.find x y w L
 rw[hk]at hj
 simp[Instr.mapUpdate,run_underlying hm,getObj,setObj,Sem.run,hb,Rx,h.check,hj,ent]
theorem run_delP(h:JB P tk)(hm:P.underlying t=some (.map tk te))(hb:w.heap[b]? = some (Rx L c))(x y:Int){j:Nat}{v:Value}(hk:LV x y L 0=some (j,v))(tk' ty:TypeId) :
   (Builtin.delete_ #[t,tk'] ty #[.map (some b),pk x y]).run P w = .ok (.tuple #[]) { w with heap:=w.heap.setIfInBounds b (Rx (L.eraseIdx j) c) }:=by
 have hj:=h.find x y w L
 rw[hk]at hj
 simp[Builtin.delete_,run_underlying hm,getObj,setObj,Sem.run,hb,Rx,h.check,hj,map_eraseIdx]
theorem Sat.mapPut{A:AW}{w:World}(h:Sat A w){i:Nat}(hi:A.σ[i]? = some (LW b L c))(L':List PE)(c':Nat):Sat { A with σ:=A.σ.set i (LW b L' c') } { w with heap:=w.heap.setIfInBounds b (Rx L' c') }:=by
 have hb:w.heap[b]? = some (Rx L c):=h.at hi
 have hs:=MapKept.heap_set (o':=Rx L' c') hb
 exact h.put hi rfl rfl (Ch.QX _ _ _) rfl rfl rfl (by simp) (fun k hk=>hs.2 k hk) hs.1
end
section
variable {P:Program}{N:Nat}{env:Env}{ds:List Deferred}{A:AW}{ops:Array Oper}{l:List Oper}{σC:List Ch}{late fuel:Nat}{listed:List Bool}{s:List Kt}{Q:Exit→Act→World→Prop}
def lookA(P:Program)(N:Nat)(ops:Array Oper)(env:Env)(o:Oper):Option (TypeId×Value×Nat×Value×Bool×Option Nat):=match o.op,NJ ops env o,Ld env o,Np N o.dst with
 | .lookup t x ix ok,some true,true,true=>match IE env x,P.underlying t with
  | .map (some b),some (.map tk te)=>match P.info? te with
   | some f=>match f.zero with
    | some z=>some (tk,z,b,IE env ix,ok,o.dst)
    | none=>none
   | none=>none
  | _,_=>none
 | _,_,_,_=>none
theorem lookA_run{o:Oper}{tk:TypeId}{z k:Value}{b c:Nat}{ok:Bool}{d:Option Nat}(h:lookA P N ops env o=some (tk,z,b,k,ok,d))(hP:JB P tk){x y:Int}(hk:k=pk x y){L:List PE}(hf:LV x y L 0=none){a:Act}{w:World}(hst:St N env ds A a w) :
   Region.wanted o (yielded ops a.tmps)=true∧Np N o.dst=true∧d=o.dst∧∀ w1:World,w1.heap[b]? = some (Rx L c)→(execOp a.eval o).run P w1 = .ok (.value (if ok then .tuple #[z,.bool false]else z)) w1:=by
 unfold lookA at h
 split at h
 · rename_i t x' ix ok' hop hw hkn hd0
   split at h
   · rename_i b' tk' te hx hu
     split at h
     · rename_i f hf'
       split at h
       · rename_i z' hz
         simp only[Option.some.injEq,Prod.mk.injEq]at h
         obtain⟨rfl,rfl,rfl,rfl,rfl,rfl⟩:=h
         refine⟨G6 hw hst,hd0,rfl,fun w1 hw1 => ?_⟩
         rw[IY hst hkn]
         unfold execOp
         simp only[hop,hx,hk,Sem.run_bind,Result.andThen_ok,Sem.run_pure,run_lookP hP hu hw1 hf' hz x y hf]
       · cases h
     · cases h
   · cases h
 · cases h
theorem w_lookP(p i:Nat)(L:List PE)(x y:Int)(b c:Nat)(tk:TypeId)(z:Value)(ok:Bool)(d:Option Nat)(hf:LV x y L 0=none)(hP:JB P tk)
   (K:Wg P N (Io env d (if ok then .tuple #[z,.bool false]else z)) ds A ops σC late (fuel - 1) (listed.set p true) s Q)
   (h:(match ops[p]? with | some o=>lookA P N ops env o | none=>none)=some (tk,z,b,pk x y,ok,d):=by as_aux_lemma=>kernel_rfl) (hi:σC[i]? = some (LW b L c):=by rfl) (ht:Z9 ops late p listed=true:=by as_aux_lemma=>kernel_rfl) (hfu:Nat.ble 1 fuel=true:=by as_aux_lemma=>kernel_rfl) (hs:Region.noSelect ops=true:=by as_aux_lemma=>kernel_rfl):Wg P N env ds A ops σC late fuel listed s Q:=by
 obtain⟨f,rfl⟩:∃ f,fuel=f+1:=⟨fuel - 1,by have:=Nat.le_of_ble_eq_true hfu;omega⟩
 simp only[Z9,Bool.and_eq_true,Bool.not_eq_true']at ht
 obtain⟨⟨⟨hah,hil0⟩,hfr⟩,hrd⟩:=ht
 split at h
 · rename_i o ho
   intro a0 w hst hcl hC
   have hil:p≠late:=fun e=>by subst e;rw[Nat.beq_refl]at hil0;cases hil0
   have hrd':p∈Region.ready .any ops listed.toArray:=by simpa using hrd
   have hC0:=hC (SX hah ho hcl hrd')
   have hQ:∀ v c a w,Quiet (QQ P s Q) (.panic c) (a.put o.dst v) w→Quiet (QQ P s Q) (.panic c) a w:=fun _ _ _ _ h=>Wp h
   have hcl':Closed .any ops (listed.set p true).toArray:=by rw[←Qz];exact N9 hcl hrd'
   obtain⟨hw,hd,rfl,hr⟩:=lookA_run (c:=c) h hP rfl hf hst
   have K':=K _ w (hst.put hst.mem _ hd _) hcl' (fun _=>hC0)
   exact first (md:= .any) (late:=late) (C:=Cs σC) hah ho (Region.noSelect_spec hs) (hQ _) f listed.toArray a0 w hcl (Region.free_spec ho hfr) hrd' (.inl ⟨hw,fun w1 hC1=>hr w1 (hC1 _ (List.mem_of_getElem? hi))⟩) hC0 hil (by rw[Qz];exact K')
 · cases h
def updA(P:Program)(N:Nat)(ops:Array Oper)(env:Env)(o:Oper):Option (TypeId×Nat×Value×Value×Option Nat):=match o.op,NJ ops env o,Ld env o,Np N o.dst with
 | .mapUpdate t m k x,some true,true,true=>match IE env m,P.underlying t with
  | .map (some b),some (.map tk te)=>some (tk,b,IE env k,IE env x,o.dst)
  | _,_=>none
 | _,_,_,_=>none
theorem updA_run{o:Oper}{tk:TypeId}{k v:Value}{b c:Nat}{d:Option Nat}(h:updA P N ops env o=some (tk,b,k,v,d))(hP:JB P tk){x y:Int}(hk:k=pk x y){L:List PE}(hf:LV x y L 0=none){a:Act}{w:World}(hst:St N env ds A a w){i:Nat}(hi:A.σ[i]? = some (LW b L c)) :
   Region.wanted o (yielded ops a.tmps)=true∧Np N o.dst=true∧d=o.dst∧∃ w',(execOp a.eval o).run P w = .ok .skip w'∧Sat { A with σ:=A.σ.set i (LW b (L++[(x,y,v,c)]) (c+1)) } w':=by
 unfold updA at h
 split at h
 · rename_i t m kk xx hop hw hkn hd0
   split at h
   · rename_i b' tk' te hx hu
     simp only[Option.some.injEq,Prod.mk.injEq]at h
     obtain⟨rfl,rfl,rfl,rfl,rfl⟩:=h
     refine⟨G6 hw hst,hd0,rfl,_, ?_,hst.mem.mapPut hi _ _⟩
     rw[IY hst hkn]
     unfold execOp
     simp only[hop,hx,hk,Sem.run_bind,Result.andThen_ok,Sem.run_pure,run_updP hP hu (hst.mem.at hi) x y _ hf]
   · cases h
 · cases h
theorem wo_updP{p:Nat}(i:Nat)(L:List PE)(x y:Int)(v:Value)(b c:Nat)(tk:TypeId)(d:Option Nat)(hf:LV x y L 0=none)(hP:JB P tk)(hC:Nat.beq p late=true)
   (K:Wg P N (Io env d undef) ds { A with σ:=A.σ.set i (LW b (L++[(x,y,v,c)]) (c+1)) } ops σC late fuel (listed.set p true) s Q)
   (hp:Nat.blt p listed.length=true:=by rfl) (h:(match ops[p]? with | some o=>updA P N ops env o | none=>none)=some (tk,b,pk x y,v,d):=by as_aux_lemma=>kernel_rfl) (hi:A.σ[i]? = some (LW b L c):=by rfl):WO P N env ds A ops σC late fuel listed s Q p:=by
 intro a w hst hcl
 have hlt:p<listed.length:=by simpa using hp
 split at h
 · rename_i o ho
   obtain⟨hw,hd,rfl,w',hr,hs'⟩:=updA_run h hP rfl hf hst hi
   unfold wpOp
   simp only[ho]
   rw[if_pos hw]
   left
   unfold Oper.wp
   rw[hr]
   have hcs:∀ w',(listed.set p true).toArray.getD late false=false→Cs σC w':=by
     intro w' hl
     have:=Nat.eq_of_beq_eq_true hC
     subst this
     simp[hlt]at hl
   exact⟨hcs _,K _ _ (hst.put hs' _ hd _) hcl (hcs _)⟩
 · cases h
def delOf(o:Oper):Option (Operand×Operand×TypeId×TypeId):=match o.op with
 | .call c=>match c.callee,c.args.toList,c.argTypes.toList with
  | .builtin .delete,[m,k],[t,u]=>some (m,k,t,u)
  | _,_,_=>none
 | _=>none
theorem delOf_spec{o:Oper}{m k:Operand}{t u:TypeId}(h:delOf o=some (m,k,t,u)):o.op = .call { callee:= .builtin .delete,args:= #[m,k],argTypes:= #[t,u] }:=by
 unfold delOf at h
 split at h
 ·rename_i c hop
  split at h
  ·rename_i m' k' t' u' h1 h2 h3
   simp only[Option.some.injEq,Prod.mk.injEq]at h
   obtain⟨rfl,rfl,rfl,rfl⟩:=h
   obtain⟨c1,c2,c3⟩:=c
   simp only at h1 h2 h3
   rw[hop,h1]
   congr 2
   ·apply Array.ext';rw[h2]
   apply Array.ext';rw[h3]
  cases h
 cases h
def delA(P:Program)(N:Nat)(ops:Array Oper)(env:Env)(o:Oper):Option (TypeId×Nat×Value×Option Nat):=match delOf o,NJ ops env o,Ld env o,Np N o.dst with
 | some (m,k,t,_),some true,true,true=>match IE env m,P.underlying t with
  | .map (some b),some (.map tk te)=>some (tk,b,IE env k,o.dst)
  | _,_=>none
 | _,_,_,_=>none
theorem delA_run{o:Oper}{tk:TypeId}{k v:Value}{b c j:Nat}{d:Option Nat}(h:delA P N ops env o=some (tk,b,k,d))(hP:JB P tk){x y:Int}(hk:k=pk x y){L:List PE}(hf:LV x y L 0=some (j,v)){a:Act}{w:World}(hst:St N env ds A a w){i:Nat}(hi:A.σ[i]? = some (LW b L c)) :
   Region.wanted o (yielded ops a.tmps)=true∧Np N o.dst=true∧d=o.dst∧∃ w',(execOp a.eval o).run P w = .ok (.value (.tuple #[])) w'∧Sat { A with σ:=A.σ.set i (LW b (L.eraseIdx j) c) } w':=by
 unfold delA at h
 split at h
 · rename_i m kk t u hop0 hw hkn hd0
   have hop:=delOf_spec hop0
   split at h
   · rename_i b' tk' te hx hu
     simp only[Option.some.injEq,Prod.mk.injEq]at h
     obtain⟨rfl,rfl,rfl,rfl⟩:=h
     refine⟨G6 hw hst,hd0,rfl,_, ?_,hst.mem.mapPut hi _ _⟩
     rw[IY hst hkn]
     unfold execOp
     simp only[hop,resolve,invoke,builtin,Sem.run_bind,Sem.run_pure,Result.andThen_ok,List.map_toArray,List.map_cons,List.map_nil,hx,hk,run_delP hP hu (hst.mem.at hi) x y hf]
   · cases h
 · cases h
theorem wo_delP{p:Nat}(i:Nat)(L:List PE)(x y:Int)(v:Value)(b c j:Nat)(tk:TypeId)(d:Option Nat)(hf:LV x y L 0=some (j,v))(hP:JB P tk)(hC:Nat.beq p late=true)
   (K:Wg P N (Io env d (.tuple #[])) ds { A with σ:=A.σ.set i (LW b (L.eraseIdx j) c) } ops σC late fuel (listed.set p true) s Q)
   (hp:Nat.blt p listed.length=true:=by rfl) (h:(match ops[p]? with | some o=>delA P N ops env o | none=>none)=some (tk,b,pk x y,d):=by as_aux_lemma=>kernel_rfl) (hi:A.σ[i]? = some (LW b L c):=by rfl):WO P N env ds A ops σC late fuel listed s Q p:=by
 intro a w hst hcl
 have hlt:p<listed.length:=by simpa using hp
 split at h
 · rename_i o ho
   obtain⟨hw,hd,rfl,w',hr,hs'⟩:=delA_run h hP rfl hf hst hi
   unfold wpOp
   simp only[ho]
   rw[if_pos hw]
   left
   unfold Oper.wp
   rw[hr]
   have hcs:∀ w',(listed.set p true).toArray.getD late false=false→Cs σC w':=by
     intro w' hl
     have:=Nat.eq_of_beq_eq_true hC
     subst this
     simp[hlt]at hl
   exact⟨hcs _,K _ _ (hst.put hs' _ hd _) hcl (hcs _)⟩
 · cases h
end
end Go.Proofs.YtjdmhijaanmccaaDoor.Eng
namespace Go.Proofs.YtjdmhijaanmccaaDoor.Dv
open Go Go.Proofs.YtjdmhijaanmccaaDoor.Eng Go.Proofs.YtjdmhijaanmccaaDoor.Mem Go.Proofs.YtjdmhijaanmccaaDoor.Ly Go.Proofs.YtjdmhijaanmccaaDoor.Ad
set_option linter.unusedSimpArgs false
set_option linter.unusedVariables false
set_option maxRecDepth 100000
def UD(x:Int):List Value:=[.int .i64 0,.int .i64 x,.slice none 0 0]
def IB(i:Nat):List Int:=(List.range i).map fun(q:Nat)=>(q:Int)
theorem upF_len{i:Nat}:(IB i).length=i:=by simp[IB]
theorem upF_succ{i:Nat}:IB (i+1)=IB i++[(i:Int)]:=by unfold IB;rw[List.range_succ,List.map_append];rfl
theorem XL{i q:Nat}(h:q<i):gd (IB i) q=(q:Int):=YQ h
def mE(i:Nat):List PE:=(List.range i).map fun(q:Nat)=>(0,(q:Int),.slice none 0 0,q)
theorem mE_succ{i:Nat}:mE (i+1)=mE i++[(0,(i:Int),.slice none 0 0,i)]:=by unfold mE;rw[List.range_succ,List.map_append];rfl
theorem findP_no{a b:Int}:∀ {L:List PE} {s:Nat},(∀ x∈L,¬ (a=x.1∧b=x.2.1))→LV a b L s=none
 | [],_,_=>rfl
 | x :: L,s,h=>by
  unfold LV
  rw[if_neg (h x (List.mem_cons_self ..))]
  exact findP_no (fun y hy=>h y (List.mem_cons_of_mem _ hy))
theorem mE_no{i:Nat}:LV 0 (i:Int) (mE i) 0=none:=findP_no (fun x hx=>by
 unfold mE at hx
 obtain⟨q,hq,rfl⟩:=List.mem_map.1 hx
 have:=List.mem_range.1 hq
 rintro⟨-,h⟩
 have h2:(i:Int)=(q:Int):=h
 omega)
def mD(n i:Nat):List PE:=(mE n).drop i
theorem mD_cons{n i:Nat}(h:i<n):mD n i=(0,(i:Int),.slice none 0 0,i) :: mD n (i+1):=by
 have hl:i<(mE n).length:=by simpa[mE]using h
 unfold mD
 rw[List.drop_eq_getElem_cons hl]
 congr 1
 simp[mE]
theorem mD_at{n i:Nat}(h:i<n):LV 0 (i:Int) (mD n i) 0=some (0,.slice none 0 0):=by
 rw[mD_cons h];unfold LV;rw[if_pos ⟨rfl,rfl⟩]
theorem mD_next{n i:Nat}(h:i<n):(mD n i).eraseIdx 0=mD n (i+1):=by rw[mD_cons h];rfl
theorem pn_pos{c:Ai}(h:EI c=AQ):1≤c.Aa.xs.length:=by
 have h2:=XT h 3 (by rw[GL];omega)
 rw[Vl (by decide)]at h2
 have:=DD ((Ic (by decide)).1 (show Af (win (c.Aa.xs.length:Int) 1 8) 403 ⟨-1, -1⟩=AQ from h2))
 omega
theorem ins_in{c:Ai}(hF:EI c=AQ){q:Nat}(hq:q<c.Aa.xs.length):0≤(gd c.Aa.xs q).Fa:=by
 have h1:CP c q=AQ:=by
  rw[←VL hq]
  exact XT hF _ (by have:=GL (c:=c);omega)
 have h2:=(Nz (Ot h1)).1
 have h3:=Nb h2 (Af (win (Ey c q).Fa 0 16&&win (Ey c q).Bv 0 16) 407 ⟨(q:Int), -1⟩) (by simp[Gw])
 have h4:=(Ic (by decide)).1 h3
 rw[Bool.and_eq_true]at h4
 exact(DD h4.1).1
theorem Wi:JB Tryd.prog 72:=⟨fun _ _ _ _=>by kernel_rfl,fun _ _ _ _=>by kernel_rfl,⟨_,Tryd.underlying72⟩⟩
section
variable (w46:World)(c:Ai)(ax59:Option Addr)(i:Nat)(y58:Ar)(cp60:Nat)(ax71:Option Addr)(y70:Aq)(cp72:Nat)(aA:Option Addr)(cA:Nat)(aO:Option Addr)(cO n42:Nat)(n76 kf:Nat)(n90 kg:Nat)(lay47:G9)(n49 n17:Nat)(z b23:Nat)(nq cF:Nat)(b51 o52:Nat)(w:World)
abbrev WG:=bk (w46.heap.size+2) #[i6 c.Frames,.slice ax59 (((LQ c i)++[y58.Bv]).length) cp60,.slice ax71 (((QS c i)++[y70.State+4]).length) cp72,.map (some (w46.heap.size+1))] 68
abbrev Vr:=bk (w46.heap.size+2) #[i6 c.Frames,.slice ax59 (((LQ c i)++[y58.Bv]).length) cp60,.slice aA ((QS c i).length) cA,.map (some (w46.heap.size+1))] 68
abbrev IU:=bk (w46.heap.size+2) #[i6 c.Frames,.slice aO ((LQ c i).length) cO,.slice aA ((QS c i).length) cA,.map (some (w46.heap.size+1))] 68
abbrev GK:=bk n42 #[i6 ((EI c).Ag.First),i6 ((EI c).Ag.Second)] 38
abbrev YO:=bk n76 #[i6 0,Ac kf,.slice none 0 0] 32
abbrev YZ:=bk n90 #[i6 0,Ac kg,.slice none 0 0] 32
abbrev Y6:=bk (n76+1) #[i6 0,Ac kf] 72
abbrev He:Ch:= .blk w46.heap.size (.cells (G9.arr lay47) 60 (0,0)) true
abbrev QM:=bk (n49+1) #[i6 y58.Bv] 3
abbrev P7:=bk n49 (Ar.arr y58) 52
abbrev Fq:=bk n17 (Ai.arr c) 26
abbrev EK:=bk z (Ai.arr c) 26
abbrev Q7:=Cm z 3 1 (fun x:Int=>[i6 x]) (.slice ax59 (((LQ c i)++[y58.Bv]).length) cp60) ((LQ c i)++[y58.Bv])
abbrev Va:=Cm z 3 1 (fun x:Int=>[i6 x]) (.slice ax71 (((QS c i)++[y70.State+4]).length) cp72) ((QS c i)++[y70.State+4])
abbrev Iq:=Cm z 3 1 (fun x:Int=>[i6 x]) (.slice aO ((LQ c i).length) cO) (LQ c i)
abbrev Hm:=Cm z 3 1 (fun x:Int=>[i6 x]) (.slice aA ((QS c i).length) cA) (QS c i)
abbrev EL:=Cm z 32 3 UD (.slice (some ⟨b23,0,none⟩) ((IB nq).length) cF) (IB nq)
abbrev JX:Dk:=(43,.slice (some ⟨b51,o52,none⟩) c.Aa.xs.length c.Aa.cap)
abbrev NQ:Dk:=(43,.slice c.Aa.a c.Aa.xs.length c.Aa.cap)
abbrev OG:Dk:=(144,.slice (some ⟨b23,0,none⟩) ((IB nq).length) cF)
abbrev JC:Dk:=(78,.slice (some ⟨b23,0,none⟩) ((IB nq).length) cF)
abbrev V6:Dk:=(5,.slice (some ⟨b23,0,none⟩) ((IB nq).length) cF)
abbrev EG:Dk:=(1,.slice (some ⟨b23,0,none⟩) ((IB nq).length) cF)
abbrev H7:=(44,Ac c.Aa.xs.length)
abbrev Eo:=(10,pt (w46.heap.size+2))
abbrev OU:=(145,i6 (((IB nq).length:Nat):Int))
abbrev J9:=(79,i6 (((IB nq).length:Nat):Int))
abbrev H9:=(8,pt w46.heap.size)
abbrev RD:=(15,pt (n76+1))
abbrev RI:=(14,pt n76)
abbrev EE:=(2,pt n17)
abbrev TP:=[(Ak w),(EK c z),(EL z b23 nq cF),(Fq c n17),(GK c n42),(mid (n42+1) w46),(He w46 lay47),(LW (w46.heap.size+1) (mE kf) kf),(IU w46 c i aA cA aO cO),(Iq c i aO cO z),(Hm c i aA cA z),(YO n76 kf),(Y6 n76 kf)]
end
theorem many_calls(w:World)(hL:Jm w)(c:Ai)(hc:Ai.ok Any w c)(hS:c.Aa.xs.length+c.Aj.xs.length+c.AX.xs.length≤15000000000000)(more:Int)(hm:IC .i64 more):Calls Tryd.prog 3 #[.agg (Ai.arr c),.int .i64 more] w fun e w'=>e = .returned (.bool true)∧CE (fun _=>False) w w':=by
 obtain⟨z,hz⟩:∃ z,z=w.heap.size:=⟨_,rfl⟩
 refine Cb (args:=[.agg (Ai.arr c),i6 more]) 61 ⟨w,z,[(Ak w)]⟩ Tryd.func3 rfl (by kernel_rfl) (by kernel_rfl) (Em hz) ?_
 have hmI:(-9223372036854775808:Int)≤more∧more≤9223372036854775807:=hm;have hpl:=hc.Aa.1.len
 refine DI [0,1] [(0,.agg (Ai.arr c)),(1,i6 more)] ?_
 refine q_c 7 1 [] [[o0,o0],[(an 7 1)]] [Qb z,Qb z,Qb z,Qb z,Qb z,Qb z,Qb z] [(1,i6 more),(2,pt z),(12,.agg (Ai.arr c))] ⟨w,z+1,[(Ak w),(EK c z)]⟩ rfl ⟨rfl,rfl,rfl,rfl,rfl,rfl,rfl,Ae⟩ ?_
 refine l_call [] [] 6 #[.agg (Ai.arr c)] (some 13) Ae ?_
 intro w1 hw1
 refine(vast_calls w1 c (hc.ext (hw1.ext rfl) (fun _ h=>h))).mono ?_
 rintro e w2 ⟨bv3,rfl,hkw2⟩
 have hnw2:z+1≤w2.heap.size:=I5 hw1 hkw2
 refine⟨_,_,rfl,hw1.keeps hkw2, ?_⟩
 refine Dc [1,2,13] [(1,i6 more),(2,pt z),(13,.bool bv3)] ?_
 refine U5 (by kernel_rfl) ?_
 refine GG ?_
 by_cases h4:bv3=true
 ·refine Au 6 0 [3] [[o0]] [Value.bool bv3=Value.bool true] [(4,.bool true)] rfl ⟨(congrArg Value.bool h4),Ae⟩ ?_
  refine Az [] [] (.bool true) Ae ?_
  intro w5 hw5
  exact⟨rfl,AA hw5⟩
 refine VD ?_ (congrArg Value.bool (Bool.eq_false_iff.2 h4))
 refine YT <| GG <| CB <| CB ?_
 by_cases h6:(more:Int)<0
 ·refine Au 6 0 [1] [[o0,oT,o0,o0]] [BT ((more:Int)<0)] [(1,i6 more),(2,pt z),(19,.bool true)] rfl ⟨bt,Ae⟩ ?_
  refine AY 7 #[] (some 20) (.bool true) (fun w7 hw7=>OL w7 (hL.ext (hw7.ext rfl))) (fun n8 (hn9:w2.heap.size≤n8) => ?_)
  refine Bq 3 0 [] [[o0]] [] [(4,.bool true)] rfl Ae ?_
  refine Az [] [] (.bool true) Ae ?_
  intro w10 hw10
  exact⟨rfl,AA hw10⟩
 by_cases h11:(3:Int)<more
 ·refine Au 6 0 [1] [[o0,oF,o0,o0,oT,o0]] [BF ((more:Int)<0),BT ((more:Int) > 3)] [(1,i6 more),(2,pt z),(19,.bool true)] rfl ⟨bf,bt,Ae⟩ ?_
  refine AY 7 #[] (some 20) (.bool true) (fun w12 hw12=>OL w12 (hL.ext (hw12.ext rfl))) (fun n13 (hn14:w2.heap.size≤n13) => ?_)
  refine Bq 3 0 [] [[o0]] [] [(4,.bool true)] rfl Ae ?_
  refine Az [] [] (.bool true) Ae ?_
  intro w15 hw15
  exact⟨rfl,AA hw15⟩
 refine Au 16 0 [0] [[o0,oF,o0,o0,oF,o0],[o0],[o0]] [BF ((more:Int)<0),BF ((more:Int) > 3)] [(1,i6 more),(2,pt z),(5,.slice none 0 0),(6,i6 0)] rfl ⟨bf,bf,Ae⟩ ?_
 refine Pn z 32 3 UD ?_
 refine Du (fun m a w'=>∃ (n17:Nat) (nq:Nat) (aF:Option Addr) (cF:Nat),m=(4095+more).toNat - nq∧w2.heap.size≤n17∧(nq≤(4095+more).toNat)∧St 61 [(1,i6 more),(2,pt z),(5,.slice aF ((IB nq).length) cF),(6,Ac nq)] [] ⟨w,n17,[(Ak w),(EK c z),(Cm z 32 3 UD (.slice aF ((IB nq).length) cF) (IB nq))]⟩ a w') ((4095+more).toNat - 0) ?_ ?_
 ·intro a w' hs;exact⟨w2.heap.size,0,none,0,rfl,Nat.le_refl _,Nat.zero_le _,hs⟩
 rintro m a w' ⟨n17,nq,aF,cF,rfl,hn16,hknq,hs⟩
 refine(?_:G Tryd.prog 61 [(1,i6 more),(2,pt z),(5,.slice aF ((IB nq).length) cF),(6,Ac nq)] [] ⟨w,n17,[(Ak w),(EK c z),(Cm z 32 3 UD (.slice aF ((IB nq).length) cF) (IB nq))]⟩ _ _ _) a w' hs
 clear hs a w'
 have hlf:(IB nq).length=nq:=upF_len
 refine CB <| CB ?_
 by_cases h18:(nq:Int)<4095+more
 ·refine q_c 9 4 [1] [[o0,o0,(ov (i6 (4095+more))),oT],[o0,o0,o0,o0]] [Wr ((4095:Int)+more) (4095+more),BT ((nq:Int)<(4095+more))] [(1,i6 more),(2,pt z),(6,Ac nq),(27,.slice aF ((IB nq).length) cF),(30,.slice (some ⟨n17,0,none⟩) 1 1)] ⟨w,n17+1,[(Ak w),(EK c z),(Cm z 32 3 UD (.slice aF ((IB nq).length) cF) (IB nq)),(bk n17 #[i6 0,Ac nq,.slice none 0 0] 32)]⟩ rfl ⟨BQ,bt,Ae⟩ ?_
  refine NY z 2 3 (IB nq) [((nq:Int))] UD 32 3 40 (.slice aF ((IB nq).length) cF) n17 1 1 #[i6 0,Ac nq,.slice none 0 0] 32 (0,0) true (some 31) (by simp only[List.length_cons,List.length_nil];omega) (show z≤n17+1 by omega) (fun ax19 cp20 n21 (hn22:n17+1≤n21) => ?_)
  refine Bq 5 0 [] [[o0],[o0,(ov (i6 ((nq+1:Nat):Int))),o0]] [Wr ((nq:Int)+1) (((nq+1:Nat):Int))] [(1,i6 more),(2,pt z),(6,i6 ((nq+1:Nat):Int)),(5,.slice ax19 (((IB nq)++[((nq:Int))]).length) cp20)] rfl ⟨BQ,Ae⟩ ?_
  refine BX [0,1,2] [(Ak w),(EK c z),(Cm z 32 3 UD (.slice ax19 (((IB nq)++[((nq:Int))]).length) cp20) ((IB nq)++[((nq:Int))]))] rfl rfl ?_
  refine BK [1,2,5,6] [(1,i6 more),(2,pt z),(5,.slice ax19 (((IB nq)++[((nq:Int))]).length) cp20),(6,i6 ((nq+1:Nat):Int))] ?_
  refine BO (fun a w' hs=>⟨(4095+more).toNat - (nq+1),by omega,n21,(nq+1),ax19,cp20,rfl,by omega,by omega,(by(try dsimp only[EK]at hs ⊢);rw[upF_succ];exact hs)⟩)
 refine Au 10 0 [0] [[o0,o0,(ov (i6 (4095+more))),oF]] [Wr ((4095:Int)+more) (4095+more),BF ((nq:Int)<(4095+more))] [(1,i6 more),(2,pt z),(5,.slice aF ((IB nq).length) cF),(6,Ac nq),(24,.bool false)] rfl ⟨BQ,bf,Ae⟩ ?_
 refine Lc (base:=z) (e:=32) (sz:=3) (cells:=UD) (a:=aF) (n:=((IB nq).length)) (cap:=cF) (xs:=(IB nq)) 2 (by omega) (fun b23 hg24 hb25 => ?_)
 subst hg24
 refine Au 1 2 [] [[(an 7 1),o0]] [Qb z,Qb z,Qb z,Qb z,Qb z,Qb z,Qb z] [(2,pt z),(V6 b23 nq cF),(33,.agg (Ai.arr c)),(34,.slice (some ⟨b23,0,none⟩) ((IB nq).length) cF)] rfl ⟨rfl,rfl,rfl,rfl,rfl,rfl,rfl,Ae⟩ ?_
 refine l_call [] [] 8 #[.agg (Ai.arr c),.slice (some ⟨b23,0,none⟩) ((IB nq).length) cF] (some 35) Ae ?_
 intro w26 hw26
 refine Cb (args:=[.agg (Ai.arr c),.slice (some ⟨b23,0,none⟩) ((IB nq).length) cF]) 165 ⟨w,n17,[(Ak w),(EK c z),(EL z b23 nq cF)]⟩ Tryd.func8 rfl (by kernel_rfl) (by kernel_rfl) hw26 ?_
 refine q_c 6 0 [] [[o0,o0,o0]] [] [(EG b23 nq cF),(EE n17)] ⟨w,n17+1,[(Ak w),(EK c z),(EL z b23 nq cF),(Fq c n17)]⟩ rfl Ae ?_
 by_cases h27:(4096:Int)<(((IB nq).length:Nat):Int)
 ·refine Au 9 0 [1] [[o0,o0,oT],[o0,o0]] [BT (((((IB nq).length:Nat):Int):Int) > 4096)] [(4,.pointer none),(5,i6 2)] rfl ⟨bt,Ae⟩ ?_
  refine Az [] [] (.tuple #[.pointer none,i6 2]) Ae ?_
  intro w28 hw28
  refine⟨_,_,rfl,hw28, ?_⟩
  refine Bq 8 1 [] [[o0,o0,o0,o0,o0],[o0],[(an 7 1)]] [Qb z,Qb z,Qb z,Qb z,Qb z,Qb z,Qb z] [(V6 b23 nq cF),(7,.pointer none),(8,i6 2),(9,i6 0),(39,.agg (Ai.arr c))] rfl ⟨rfl,rfl,rfl,rfl,rfl,rfl,rfl,Ae⟩ ?_
  refine AY 9 #[.agg (Ai.arr c)] (some 40) (.tuple #[i6 ((EI c).e),.agg #[i6 ((EI c).Ag.First),i6 ((EI c).Ag.Second)]]) (fun w29 hw29=>Ui w29 c (hc.ext (hw29.ext rfl) (fun _ h=>h))) (fun n30 (hn31:n17+1≤n30) => ?_)
  refine F8 4 0 [] [[o0,o0,o0,o0,o0,(an 2 4)]] [Qb n30,Qb n30] [(V6 b23 nq cF),(7,.pointer none),(8,i6 2),(9,i6 0),(10,i6 ((EI c).e))] ⟨w,n30+1,[(Ak w),(EK c z),(EL z b23 nq cF),(Fq c n17),(bk n30 #[i6 ((EI c).Ag.First),i6 ((EI c).Ag.Second)] 38)]⟩ rfl ⟨rfl,rfl,Ae⟩ ?_
  by_cases h32:((EI c).e:Int)=0
  ·have hF:=Zb h32;have hG:=good_of hF;have hGk:=hG.kern;have hGp:=hG.pn;have hGf:=hG.fr;have hcok:=ok_of_err hG.err
   refine Au 17 11 [0,1] [[o0,oF],[o0,o0,oT],[o0],[o0,o0,o0,o0,o0,o0,o0,o0,o0,o0,o0]] [NF ((EI c).e) 0,BT (((((IB nq).length:Nat):Int):Int) > 4096)] [(58,.bool true)] rfl ⟨nf,bt,Ae⟩ ?_
   refine AY 7 #[] (some 59) (.bool true) (fun w33 hw33=>OL w33 (hL.ext (hw33.ext rfl))) (fun n34 (hn35:n30+1≤n34) => ?_)
   refine Bq 3 0 [] [[o0,o0]] [] [(4,.bool true)] rfl Ae ?_
   refine Az [] [] (.bool true) Ae ?_
   intro w36 hw36
   exact⟨rfl,AA hw36⟩
  refine Au 18 11 [1,1] [[o0,oT],[o0],[o0,o0,oT],[o0],[o0,o0,o0,o0,o0,o0,o0,o0,o0,o0,o0]] [NT ((EI c).e) 0,BT (((((IB nq).length:Nat):Int):Int) > 4096)] [(58,.bool true)] rfl ⟨nt,bt,Ae⟩ ?_
  refine AY 7 #[] (some 59) (.bool true) (fun w37 hw37=>OL w37 (hL.ext (hw37.ext rfl))) (fun n38 (hn39:n30+1≤n38) => ?_)
  refine Bq 3 0 [] [[o0,o0]] [] [(4,.bool true)] rfl Ae ?_
  refine Az [] [] (.bool true) Ae ?_
  intro w40 hw40
  exact⟨rfl,AA hw40⟩
 refine Au 9 1 [0] [[o0,o0,oF],[(an 7 3)]] [BF (((((IB nq).length:Nat):Int):Int) > 4096),Qb n17,Qb n17,Qb n17,Qb n17,Qb n17,Qb n17,Qb n17] [(EG b23 nq cF),(EE n17),(24,.agg (Ai.arr c))] rfl ⟨bf,rfl,rfl,rfl,rfl,rfl,rfl,rfl,Ae⟩ ?_
 refine AY 17 #[.agg (Ai.arr c)] (some 25) (.tuple #[i6 ((EI c).e),.agg #[i6 ((EI c).Ag.First),i6 ((EI c).Ag.Second)]]) (fun w41 hw41=>Yb w41 (hL.ext (hw41.ext rfl)) c (hc.ext (hw41.ext rfl) (fun _ h=>h)) hS) (fun n42 (hn43:n17+1≤n42) => ?_)
 refine F8 3 0 [] [[o0,o0,o0,o0,o0,(an 2 4)]] [Qb n42,Qb n42] [(EG b23 nq cF),(EE n17),(6,i6 ((EI c).e))] ⟨w,n42+1,[(Ak w),(EK c z),(EL z b23 nq cF),(Fq c n17),(GK c n42)]⟩ rfl ⟨rfl,rfl,Ae⟩ ?_
 by_cases h44:((EI c).e:Int)=0
 ·have hF:=Zb h44;have hG:=good_of hF;have hGk:=hG.kern;have hGp:=hG.pn;have hGf:=hG.fr;have hcok:=ok_of_err hG.err
  refine Au 8 1 [0] [[o0,oF],[(an 7 3)]] [NF ((EI c).e) 0,Qb n17,Qb n17,Qb n17,Qb n17,Qb n17,Qb n17,Qb n17] [(EG b23 nq cF),(EE n17),(31,.agg (Ai.arr c))] rfl ⟨nf,rfl,rfl,rfl,rfl,rfl,rfl,rfl,Ae⟩ ?_
  refine l_call [] [] 18 #[.agg (Ai.arr c)] (some 32) Ae ?_
  intro w45 hw45
  refine(of_yes w45 c (hc.ext (hw45.ext rfl) (fun _ h=>h)) hcok).mono ?_
  rintro e w46 ⟨lay47,rfl,hIlay47,hOlay47, -,hkw46⟩
  have hnw46:n42+1≤w46.heap.size:=I5 hw45 hkw46
  rw[hw45.size]at hOlay47;have hpllay47:lay47.Aa.xs.length=c.Aa.xs.length:=hIlay47.pl
  refine⟨_,_,rfl,hw45.Ud hkw46, ?_⟩
  refine F8 20 0 [0] [[o0,o0,o0,o0,(an 4 6),o0],[o0,o0],[o0,(a1 3),o0,o0,o0,o0],[o0,(a1 3),o0,o0]] [Qb w46.heap.size,Qb w46.heap.size,Qb w46.heap.size,Qb w46.heap.size,Qb n17,Qb n17] [(EG b23 nq cF),(EE n17),(H9 w46),(Eo w46),(NQ c),(H7 c),(45,i6 0)] ⟨w,w46.heap.size+3,[(Ak w),(EK c z),(EL z b23 nq cF),(Fq c n17),(GK c n42),(mid (n42+1) w46),(He w46 lay47),(Ch.blk (w46.heap.size+1) (.map #[] 0) true),(bk (w46.heap.size+2) #[i6 c.Frames,.slice none 0 0,.slice none 0 0,.map (some (w46.heap.size+1))] 68)]⟩ rfl ⟨rfl,rfl,rfl,rfl,rfl,rfl,Ae⟩ ?_
  refine Pn z 3 1 (fun x:Int=>[i6 x]) ?_
  refine Pn z 3 1 (fun x:Int=>[i6 x]) ?_
  refine Du (fun m a w'=>∃ (n49:Nat) (i:Nat) (aO:Option Addr) (cO:Nat) (aA:Option Addr) (cA:Nat),m=c.Aa.xs.length - i∧w46.heap.size+3≤n49∧(i≤c.Aa.xs.length)∧St 165 [(EG b23 nq cF),(EE n17),(H9 w46),(Eo w46),(NQ c),(H7 c),(45,Ac i)] [] ⟨w,n49,[(Ak w),(EK c z),(EL z b23 nq cF),(Fq c n17),(GK c n42),(mid (n42+1) w46),(He w46 lay47),(Ch.blk (w46.heap.size+1) (.map #[] 0) true),(IU w46 c i aA cA aO cO),(Iq c i aO cO z),(Hm c i aA cA z)]⟩ a w') (c.Aa.xs.length - 0) ?_ ?_
  ·intro a w' hs;exact⟨(w46.heap.size+3),0,none,0,none,0,rfl,Nat.le_refl _,Nat.zero_le _,hs⟩
  rintro m a w' ⟨n49,i,aO,cO,aA,cA,rfl,hn48,hki,hs⟩
  refine(?_:G Tryd.prog 165 [(EG b23 nq cF),(EE n17),(H9 w46),(Eo w46),(NQ c),(H7 c),(45,Ac i)] [] ⟨w,n49,[(Ak w),(EK c z),(EL z b23 nq cF),(Fq c n17),(GK c n42),(mid (n42+1) w46),(He w46 lay47),(Ch.blk (w46.heap.size+1) (.map #[] 0) true),(IU w46 c i aA cA aO cO),(Iq c i aO cO z),(Hm c i aA cA z)]⟩ _ _ _) a w' hs
  clear hs a w'
  have hlo:(LQ c i).length=i:=outsL_len;have hla:(QS c i).length=i:=atL_len
  refine CB ?_
  by_cases h50:(i:Int)<(c.Aa.xs.length:Int)
  ·refine Au 10 0 [1] [[oT]] [BT ((i:Int)<(c.Aa.xs.length:Int))] [(EG b23 nq cF),(EE n17),(H9 w46),(Eo w46),(NQ c),(H7 c),(45,Ac i),(46,.bool true)] rfl ⟨bt,Ae⟩ ?_
   obtain⟨b51,o52,ha53,hF55,hc54⟩:=(hc.Aa).1.all (show 0<c.Aa.xs.length by omega)
   replace ha53:c.Aa.a=some ⟨b51,o52,none⟩:=ha53
   refine LH [(EG b23 nq cF),(EE n17),(H9 w46),(Eo w46),(JX c b51 o52),(H7 c),(45,Ac i),(46,.bool true)] (by(try dsimp only[IU,GK,He,Fq,EK,Iq,Hm,EL,JX,NQ,EG,H7,Eo,H9,EE]);simp only[ha53]) ?_
   have hc56:=hc54 i (show i<c.Aa.xs.length by omega)
   have he57:=(hc.Aa).2 i (show i<c.Aa.xs.length by omega)
   obtain⟨y58,hy58⟩:∃ y_,y_=gd c.Aa.xs i:=⟨_,rfl⟩
   rw[←hy58]at he57 hc56
   skip
   refine q_c 4 0 [] [[o0,(oi i),(ol 0 (Ar.arr y58)),o0,o0,(an 8 11)]] [CW i,i<c.Aa.xs.length,Ce,GU w b51 (o52+i*8) (Ar.arr y58),Qb n49,Qb n49,Qb n49,Qb n49,Qb n49,Qb n49,Qb n49,Qb n49] [(EG b23 nq cF),(EE n17),(H9 w46),(Eo w46),(JX c b51 o52),(H7 c),(45,Ac i),(12,pt n49),(11,Ac i)] ⟨w,n49+1,[(Ak w),(EK c z),(EL z b23 nq cF),(Fq c n17),(GK c n42),(mid (n42+1) w46),(He w46 lay47),(Ch.blk (w46.heap.size+1) (.map #[] 0) true),(IU w46 c i aA cA aO cO),(Iq c i aO cO z),(Hm c i aA cA z),(P7 y58 n49)]⟩ rfl ⟨rfl,(by omega),rfl,Ei hc56,rfl,rfl,rfl,rfl,rfl,rfl,rfl,rfl,Ae⟩ ?_
   refine DX 11 [0,1,2,3,4,5,6,7,8,11] [(Ak w),(EK c z),(EL z b23 nq cF),(Fq c n17),(GK c n42),(mid (n42+1) w46),(He w46 lay47),(Ch.blk (w46.heap.size+1) (.map #[] 0) true),(IU w46 c i aA cA aO cO),(P7 y58 n49)] rfl rfl ?_
   refine CU [(0,o0),(1,o0),(2,o0),(3,o0),(4,(a1 8)),(5,o0),(6,(a1 9))] [1,2,8,10,43,44,45,11,50,54,56] [Qb (w46.heap.size+2),Qb n49] (D7 7 5) [(EG b23 nq cF),(EE n17),(H9 w46),(Eo w46),(JX c b51 o52),(H7 c),(45,Ac i),(11,Ac i),(50,pt (w46.heap.size+2)),(54,.slice aO ((LQ c i).length) cO),(56,i6 y58.Bv)] ⟨rfl,rfl,Ae⟩ ?_
   refine Bl 7 ?_
   refine BA o0 [1,2,8,10,43,44,45,11,50,54,57] [] [(EG b23 nq cF),(EE n17),(H9 w46),(Eo w46),(JX c b51 o52),(H7 c),(45,Ac i),(11,Ac i),(50,pt (w46.heap.size+2)),(54,.slice aO ((LQ c i).length) cO),(57,.slice (some ⟨n49+1,0,none⟩) 1 1)] ⟨w,n49+2,[(Ak w),(EK c z),(EL z b23 nq cF),(Fq c n17),(GK c n42),(mid (n42+1) w46),(He w46 lay47),(Ch.blk (w46.heap.size+1) (.map #[] 0) true),(IU w46 c i aA cA aO cO),(Iq c i aO cO z),(Hm c i aA cA z),(P7 y58 n49),(QM y58 n49)]⟩ [0,1,2,3,4,5,6,7,8,11] Ae (.inr rfl) ?_
   refine Bl 8 ?_
   refine PO z 9 12 (LQ c i) [y58.Bv] (fun x:Int=>[i6 x]) 3 1 8 (.slice aO ((LQ c i).length) cO) (n49+1) 1 1 #[i6 y58.Bv] 3 (0,0) true (some 58) [0,1,2,3,4,5,6,7,8,11] (by simp only[List.length_cons,List.length_nil];omega) (show z≤n49+2 by omega) (.inr ⟨rfl,rfl⟩) (fun ax59 cp60 n61 (hn62:n49+2≤n61) => ?_)
   refine Dw [1,2,8,10,43,44,45,11,50,58] [(EG b23 nq cF),(EE n17),(H9 w46),(Eo w46),(JX c b51 o52),(H7 c),(45,Ac i),(11,Ac i),(50,pt (w46.heap.size+2)),(58,.slice ax59 (((LQ c i)++[y58.Bv]).length) cp60)] ?_
   refine CU [(9,o0),(10,o0)] [1,2,8,10,43,44,45,11,58,60] [] (D7 11 1) [(EG b23 nq cF),(EE n17),(H9 w46),(Eo w46),(JX c b51 o52),(H7 c),(45,Ac i),(11,Ac i),(58,.slice ax59 (((LQ c i)++[y58.Bv]).length) cp60),(60,.pointer (some ⟨w46.heap.size+2,1,none⟩))] Ae ?_
   refine Bl 11 ?_
   refine BA (a1 8) [1,2,8,10,43,44,45,11] [Qb (w46.heap.size+2)] [(EG b23 nq cF),(EE n17),(H9 w46),(Eo w46),(JX c b51 o52),(H7 c),(45,Ac i),(11,Ac i)] ⟨w,n61,[(Ak w),(EK c z),(EL z b23 nq cF),(Fq c n17),(GK c n42),(mid (n42+1) w46),(He w46 lay47),(Ch.blk (w46.heap.size+1) (.map #[] 0) true),(Vr w46 c ax59 i y58 cp60 aA cA),(Q7 c ax59 i y58 cp60 z),(Hm c i aA cA z),(P7 y58 n49),(QM y58 n49)]⟩ [] ⟨rfl,Ae⟩ (.inl rfl) ?_
   refine DU 12 [0,1,2,3,4,5,6,7,8,9,10,11,12] [(Ak w),(EK c z),(EL z b23 nq cF),(Fq c n17),(GK c n42),(mid (n42+1) w46),(He w46 lay47),(Ch.blk (w46.heap.size+1) (.map #[] 0) true),(Vr w46 c ax59 i y58 cp60 aA cA),(Q7 c ax59 i y58 cp60 z),(Hm c i aA cA z),(P7 y58 n49),(QM y58 n49)] rfl rfl ?_
   refine CO ?_
   refine BK [1,2,8,10,43,44,45,11] [(EG b23 nq cF),(EE n17),(H9 w46),(Eo w46),(JX c b51 o52),(H7 c),(45,Ac i),(11,Ac i)] ?_
   refine GG ?_
   obtain⟨b63,o64,ha65,hF67,hc66⟩:=(hOlay47.Aa).1.all (show 0<lay47.Aa.xs.length by omega)
   replace ha65:lay47.Aa.a=some ⟨b63,o64,none⟩:=ha65
   have hc68:=hc66 i (show i<lay47.Aa.xs.length by omega)
   have he69:=(hOlay47.Aa).2 i (show i<lay47.Aa.xs.length by omega)
   obtain⟨y70,hy70⟩:∃ y_,y_=gd lay47.Aa.xs i:=⟨_,rfl⟩
   rw[←hy70]at he69 hc68
   have hsty70:y70.State=c.Kernel*16+21+24*(i:Int):=by rw[hy70];exact state_is hIlay47 (by omega)
   refine DX 16 [0,1,2,3,4,5,6,7,8,11,12] [(Ak w),(EK c z),(EL z b23 nq cF),(Fq c n17),(GK c n42),(mid (n42+1) w46),(He w46 lay47),(Ch.blk (w46.heap.size+1) (.map #[] 0) true),(Vr w46 c ax59 i y58 cp60 aA cA),(P7 y58 n49),(QM y58 n49)] rfl rfl ?_
   refine CU [(0,o0),(1,o0),(2,o0),(3,o0),(4,(a1 8)),(5,o0),(6,(E8 6 b63 o64 lay47.Aa)),(7,o0),(8,(oi i)),(9,o0),(10,(oa [.via 5 (i6 y70.State)])),(11,(ov (i6 (y70.State+4))))] [1,2,8,10,43,44,45,61,65,72] [Qb (w46.heap.size+2),Qb w46.heap.size,DZ b63 o64 lay47.Aa,CW i,i<lay47.Aa.xs.length,Ce,∀ w',Ch.holds (mid (n42+1) w46) w'→w'.cell? ⟨b63,o64+i*5+2,none⟩=some (i6 y70.State),Wr ((y70.State:Int)+4) (y70.State+4)] (D7 12 5) [(EG b23 nq cF),(EE n17),(H9 w46),(Eo w46),(JX c b51 o52),(H7 c),(45,Ac i),(61,pt (w46.heap.size+2)),(65,.slice aA ((QS c i).length) cA),(72,i6 (y70.State+4))] ⟨rfl,rfl,Ea ha65,rfl,(by omega),rfl,MF hF67 (hc68 2 _ rfl),BQ,Ae⟩ ?_
   refine Bl 12 ?_
   refine BA o0 [1,2,8,10,43,44,45,61,65,73] [] [(EG b23 nq cF),(EE n17),(H9 w46),(Eo w46),(JX c b51 o52),(H7 c),(45,Ac i),(61,pt (w46.heap.size+2)),(65,.slice aA ((QS c i).length) cA),(73,.slice (some ⟨n61,0,none⟩) 1 1)] ⟨w,n61+1,[(Ak w),(EK c z),(EL z b23 nq cF),(Fq c n17),(GK c n42),(mid (n42+1) w46),(He w46 lay47),(Ch.blk (w46.heap.size+1) (.map #[] 0) true),(Vr w46 c ax59 i y58 cp60 aA cA),(Q7 c ax59 i y58 cp60 z),(Hm c i aA cA z),(P7 y58 n49),(QM y58 n49),(bk n61 #[i6 (y70.State+4)] 3)]⟩ [0,1,2,3,4,5,6,7,8,11,12] Ae (.inr rfl) ?_
   refine Bl 13 ?_
   refine PO z 10 13 (QS c i) [y70.State+4] (fun x:Int=>[i6 x]) 3 1 8 (.slice aA ((QS c i).length) cA) n61 1 1 #[i6 (y70.State+4)] 3 (0,0) true (some 74) [0,1,2,3,4,5,6,7,8,11,12] (by simp only[List.length_cons,List.length_nil];omega) (show z≤n61+1 by omega) (.inr ⟨rfl,rfl⟩) (fun ax71 cp72 n73 (hn74:n61+1≤n73) => ?_)
   refine Dw [1,2,8,10,43,44,45,61,74] [(EG b23 nq cF),(EE n17),(H9 w46),(Eo w46),(JX c b51 o52),(H7 c),(45,Ac i),(61,pt (w46.heap.size+2)),(74,.slice ax71 (((QS c i)++[y70.State+4]).length) cp72)] ?_
   refine CU [(14,o0),(15,o0)] [1,2,8,10,43,44,45,74,76] [] (D7 16 1) [(EG b23 nq cF),(EE n17),(H9 w46),(Eo w46),(JX c b51 o52),(H7 c),(45,Ac i),(74,.slice ax71 (((QS c i)++[y70.State+4]).length) cp72),(76,.pointer (some ⟨w46.heap.size+2,2,none⟩))] Ae ?_
   refine Bl 16 ?_
   refine BA (a1 8) [1,2,8,10,43,44,45] [Qb (w46.heap.size+2)] [(EG b23 nq cF),(EE n17),(H9 w46),(Eo w46),(JX c b51 o52),(H7 c),(45,Ac i)] ⟨w,n73,[(Ak w),(EK c z),(EL z b23 nq cF),(Fq c n17),(GK c n42),(mid (n42+1) w46),(He w46 lay47),(Ch.blk (w46.heap.size+1) (.map #[] 0) true),(WG w46 c ax59 i y58 cp60 ax71 y70 cp72),(Q7 c ax59 i y58 cp60 z),(Va c i ax71 y70 cp72 z),(P7 y58 n49),(QM y58 n49),(bk n61 #[i6 (y70.State+4)] 3)]⟩ [] ⟨rfl,Ae⟩ (.inl rfl) ?_
   refine DU 17 [0,1,2,3,4,5,6,7,8,9,10,11,12,13] [(Ak w),(EK c z),(EL z b23 nq cF),(Fq c n17),(GK c n42),(mid (n42+1) w46),(He w46 lay47),(Ch.blk (w46.heap.size+1) (.map #[] 0) true),(WG w46 c ax59 i y58 cp60 ax71 y70 cp72),(Q7 c ax59 i y58 cp60 z),(Va c i ax71 y70 cp72 z),(P7 y58 n49),(QM y58 n49),(bk n61 #[i6 (y70.State+4)] 3)] rfl rfl ?_
   refine CO ?_
   refine LX 4 0 [] [[(ov (i6 ((i+1:Nat):Int))),o0]] [Wr ((i:Int)+1) (((i+1:Nat):Int))] [(EG b23 nq cF),(EE n17),(H9 w46),(Eo w46),(JX c b51 o52),(H7 c),(45,i6 ((i+1:Nat):Int))] rfl ⟨BQ,Ae⟩ ?_
   refine BX [0,1,2,3,4,5,6,7,8,9,10] [(Ak w),(EK c z),(EL z b23 nq cF),(Fq c n17),(GK c n42),(mid (n42+1) w46),(He w46 lay47),(Ch.blk (w46.heap.size+1) (.map #[] 0) true),(WG w46 c ax59 i y58 cp60 ax71 y70 cp72),(Q7 c ax59 i y58 cp60 z),(Va c i ax71 y70 cp72 z)] rfl rfl ?_
   refine GR [1,2,8,10,43,44,45] [(EG b23 nq cF),(EE n17),(H9 w46),(Eo w46),(NQ c),(H7 c),(45,i6 ((i+1:Nat):Int))] (by(try dsimp only[WG,Vr,IU,GK,He,QM,P7,Fq,EK,Q7,Va,Iq,Hm,EL,JX,NQ,EG,H7,Eo,H9,EE]);simp only[ha53];rfl) ?_
   refine BO (fun a w' hs=>⟨c.Aa.xs.length - (i+1),by omega,n73,(i+1),ax59,cp60,ax71,cp72,rfl,by omega,by omega,(by(try dsimp only[WG,Vr,IU,GK,He,QM,P7,Fq,EK,Q7,Va,Iq,Hm,EL,JX,NQ,EG,H7,Eo,H9,EE]at hs ⊢);rw[outsL_succ,atL_succ,←hy58,show c.Kernel*16+25+24*(i:Int)=y70.State+4 from by omega];exact hs)⟩)
  refine Au 16 0 [0] [[oF],[o0,o0,o0]] [BF ((i:Int)<(c.Aa.xs.length:Int))] [(EG b23 nq cF),(EE n17),(Eo w46),(JC b23 nq cF),(J9 nq),(80,i6 0)] rfl ⟨bf,Ae⟩ ?_
  refine(?_:G _ _ _ _ ⟨w,n49,[(Ak w),(EK c z),(EL z b23 nq cF),(Fq c n17),(GK c n42),(mid (n42+1) w46),(He w46 lay47),(LW (w46.heap.size+1) (mE 0) 0),(IU w46 c i aA cA aO cO),(Iq c i aO cO z),(Hm c i aA cA z)]⟩ _ _ _)
  have hpos:=pn_pos hF
  refine Du (fun m a w'=>∃ (n76:Nat) (kf:Nat),m=nq - kf∧n49≤n76∧(kf≤nq)∧St 165 [(EG b23 nq cF),(EE n17),(Eo w46),(JC b23 nq cF),(J9 nq),(80,Ac kf)] [] ⟨w,n76,[(Ak w),(EK c z),(EL z b23 nq cF),(Fq c n17),(GK c n42),(mid (n42+1) w46),(He w46 lay47),(LW (w46.heap.size+1) (mE kf) kf),(IU w46 c i aA cA aO cO),(Iq c i aO cO z),(Hm c i aA cA z)]⟩ a w') (nq - 0) ?_ ?_
  ·intro a w' hs;exact⟨n49,0,rfl,Nat.le_refl _,Nat.zero_le _,hs⟩
  rintro m a w' ⟨n76,kf,rfl,hn75,hkkf,hs⟩
  refine(?_:G Tryd.prog 165 [(EG b23 nq cF),(EE n17),(Eo w46),(JC b23 nq cF),(J9 nq),(80,Ac kf)] [] ⟨w,n76,[(Ak w),(EK c z),(EL z b23 nq cF),(Fq c n17),(GK c n42),(mid (n42+1) w46),(He w46 lay47),(LW (w46.heap.size+1) (mE kf) kf),(IU w46 c i aA cA aO cO),(Iq c i aO cO z),(Hm c i aA cA z)]⟩ _ _ _) a w' hs
  clear hs a w'
  refine CB ?_
  by_cases h77:(kf:Int)<(((IB nq).length:Nat):Int)
  ·refine q_c 18 0 [1] [[oT],[(oi kf),(oa [.via 2 (i6 0),.via 2 (Ac kf),.via 2 (.slice none 0 0)]),o0,(an 3 11)],[o0,(a1 11),o0,(a1 11),o0,o0,(an 2 12)]] [BT ((kf:Int)<(((IB nq).length:Nat):Int)),CW kf,kf<(IB nq).length,Ce,∀ w',Ch.holds (EL z b23 nq cF) w'→w'.cell? ⟨b23,0+GZ 3 kf,none⟩=some (i6 0),∀ w',Ch.holds (EL z b23 nq cF) w'→w'.cell? ⟨b23,0+GZ 3 kf+1,none⟩=some (Ac kf),∀ w',Ch.holds (EL z b23 nq cF) w'→w'.cell? ⟨b23,0+GZ 3 kf+2,none⟩=some (.slice none 0 0),Qb n76,Qb n76,Qb n76,Qb n76,Qb n76,Qb (n76+1),Qb (n76+1)] [(EG b23 nq cF),(EE n17),(Eo w46),(JC b23 nq cF),(J9 nq),(80,Ac kf),(RI n76),(RD n76)] ⟨w,n76+2,(TP w46 c i aA cA aO cO n42 n76 kf lay47 n17 z b23 nq cF w)⟩ rfl ⟨bt,rfl,(by omega),rfl,Fp (sz:=3) (j:=kf) (k:=0) (fun _=>rfl) (by omega) (by rw[XL (by omega)];rfl),Fp (sz:=3) (j:=kf) (k:=1) (fun _=>rfl) (by omega) (by rw[XL (by omega)];rfl),Fp (sz:=3) (j:=kf) (k:=2) (fun _=>rfl) (by omega) (by rw[XL (by omega)];rfl),rfl,rfl,rfl,rfl,rfl,rfl,rfl,Ae⟩ ?_
   refine DX 11 [0,1,2,3,4,5,6,7,8,9,10,11,12] (TP w46 c i aA cA aO cO n42 n76 kf lay47 n17 z b23 nq cF w) rfl rfl ?_
   refine CU [(0,o0),(1,o0),(2,o0),(3,(a1 8)),(4,(an 2 12))] [1,2,10,78,79,80,14,15,93,94] [Qb (w46.heap.size+2),Qb (n76+1),Qb (n76+1)] (D7 5 6) [(EG b23 nq cF),(EE n17),(Eo w46),(JC b23 nq cF),(J9 nq),(80,Ac kf),(RI n76),(RD n76),(93,.map (some (w46.heap.size+1))),(94,.agg #[i6 0,Ac kf])] ⟨rfl,rfl,rfl,Ae⟩ ?_
   refine w_lookP 5 7 (mE kf) 0 (kf:Int) (w46.heap.size+1) kf 72 (.slice none 0 0) true (some 95) mE_no Wi ?_
   refine Dw [1,2,10,78,79,80,14,15,95] [(EG b23 nq cF),(EE n17),(Eo w46),(JC b23 nq cF),(J9 nq),(80,Ac kf),(RI n76),(RD n76),(95,.tuple #[.slice none 0 0,.bool false])] ?_
   refine CU [(6,o0),(7,o0),(8,o0),(9,o0),(10,o0)] [1,2,10,78,79,80,14,15,17] [] (D7 11 0) [(EG b23 nq cF),(EE n17),(Eo w46),(JC b23 nq cF),(J9 nq),(80,Ac kf),(RI n76),(RD n76),(17,.bool false)] Ae ?_
   refine CO ?_
   refine BK [1,2,10,78,79,80,14,15,17] [(EG b23 nq cF),(EE n17),(Eo w46),(JC b23 nq cF),(J9 nq),(80,Ac kf),(RI n76),(RD n76),(17,.bool false)] ?_
   refine GG <| CB <| CB ?_
   obtain⟨b78,o79,ha80,hF82,hc81⟩:=(hc.Aa).1.all (show 0<c.Aa.xs.length by omega)
   replace ha80:c.Aa.a=some ⟨b78,o79,none⟩:=ha80
   have hc83:=hc81 0 (show 0<c.Aa.xs.length by omega)
   have he84:=(hc.Aa).2 0 (show 0<c.Aa.xs.length by omega)
   obtain⟨y85,hy85⟩:∃ y_,y_=gd c.Aa.xs 0:=⟨_,rfl⟩
   rw[←hy85]at he84 hc83
   have hyiy85:=ins_in hF (q:=0) (by omega);rw[←hy85]at hyiy85
   refine DX 37 [0,1,2,3,4,5,6,7,8,9,10,11,12] (TP w46 c i aA cA aO cO n42 n76 kf lay47 n17 z b23 nq cF w) rfl rfl ?_
   refine CU [(0,o0),(1,o0),(2,o0),(3,(a1 11)),(4,o0),(5,o0),(6,o0),(7,o0),(8,(a1 11)),(9,o0),(10,(E8 3 b78 o79 c.Aa)),(11,o0),(12,oF),(13,o0),(14,o0),(15,o0),(16,(a1 11)),(17,oF),(18,o0),(19,o0),(20,o0),(21,(a1 11)),(22,oF),(23,o0),(24,o0),(25,o0),(26,(a1 11)),(27,o0),(28,o0),(29,(E8 3 b78 o79 c.Aa)),(30,o0),(31,(a1 11)),(32,(oi 0)),(33,o0),(34,(oa [.via 0 (i6 y85.Fa)])),(35,oF),(36,o0)] [1,2,10,78,79,80,14,15,134] [Qb n76,Qb n76,Qb n17,DZ b78 o79 c.Aa,BF ((0:Int)≥(c.Aa.xs.length:Int)),Qb n76,BF ((kf:Int)<0),Qb n76,BF ((kf:Int)≥1073741824),Qb n76,Qb n17,DZ b78 o79 c.Aa,Qb n76,(0:Int)=((0:Nat):Int),0<c.Aa.xs.length,Ce,Old w b78 (o79+4) (i6 y85.Fa),BF ((0:Int) > y85.Fa)] (D7 37 0) [(EG b23 nq cF),(EE n17),(Eo w46),(JC b23 nq cF),(J9 nq),(80,Ac kf),(RI n76),(RD n76),(134,.bool false)] ⟨rfl,rfl,rfl,Ea ha80,bf,rfl,bf,rfl,bf,rfl,rfl,Ea ha80,rfl,rfl,(by omega),rfl,Aw (hc83 4 _ rfl),bf,Ae⟩ ?_
   refine CO ?_
   refine BK [1,2,10,78,79,80,14,15,134] [(EG b23 nq cF),(EE n17),(Eo w46),(JC b23 nq cF),(J9 nq),(80,Ac kf),(RI n76),(RD n76),(134,.bool false)] ?_
   refine GG <| VD <| YT <| GG <| DX 8 [0,1,2,3,4,5,6,7,8,9,10,11,12] (TP w46 c i aA cA aO cO n42 n76 kf lay47 n17 z b23 nq cF w) rfl rfl ?_
   refine CU [(0,o0),(1,o0),(2,o0),(3,(a1 8)),(4,(an 2 12)),(5,o0),(6,(a1 11))] [1,2,10,78,79,80,138,139,141] [Qb (w46.heap.size+2),Qb (n76+1),Qb (n76+1),Qb n76] (D7 7 2) [(EG b23 nq cF),(EE n17),(Eo w46),(JC b23 nq cF),(J9 nq),(80,Ac kf),(138,.map (some (w46.heap.size+1))),(139,.agg #[i6 0,Ac kf]),(141,.slice none 0 0)] ⟨rfl,rfl,rfl,rfl,Ae⟩ ?_
   refine Bl 7 ?_
   refine IG [] [] 19 #[.slice none 0 0] (some 142) (by as_aux_lemma=>kernel_rfl) rfl rfl Ae ?_
   intro w86 hw86
   refine Cb (args:=[.slice none 0 0]) 8 ⟨w,n76+2,(TP w46 c i aA cA aO cO n42 n76 kf lay47 n17 z b23 nq cF w)⟩ Tryd.func19 rfl (by kernel_rfl) (by kernel_rfl) hw86 ?_
   refine Au 15 0 [1] [[o0],[o0,o0],[o0]] [] [(2,.slice none 0 0)] rfl Ae ?_
   refine Az [] [] (.slice none 0 0) Ae ?_
   intro w87 hw87
   have hs88:=hw87
   refine⟨_,_,rfl,hs88,.inr (fun c hc=>hs88.all c (by first | exact hc | exact EM (is:=[0,1,2,3,4,5,6,7,8,9,10,11,12]) rfl c hc)), ?_⟩
   refine Dw [1,2,10,78,79,80,138,139,142] [(EG b23 nq cF),(EE n17),(Eo w46),(JC b23 nq cF),(J9 nq),(80,Ac kf),(138,.map (some (w46.heap.size+1))),(139,.agg #[i6 0,Ac kf]),(142,.slice none 0 0)] ?_
   refine Bl 8 ?_
   refine wo_updP 7 (mE kf) 0 (kf:Int) (.slice none 0 0) (w46.heap.size+1) kf 72 none mE_no Wi rfl ?_
   refine Dw [1,2,10,78,79,80] [(EG b23 nq cF),(EE n17),(Eo w46),(JC b23 nq cF),(J9 nq),(80,Ac kf)] ?_
   refine DU 9 [0,1,2,3,4,5,6,7,8,9,10,11,12] [(Ak w),(EK c z),(EL z b23 nq cF),(Fq c n17),(GK c n42),(mid (n42+1) w46),(He w46 lay47),(LW (w46.heap.size+1) ((mE kf)++[(0,(kf:Int),.slice none 0 0,kf)]) (kf+1)),(IU w46 c i aA cA aO cO),(Iq c i aO cO z),(Hm c i aA cA z),(YO n76 kf),(Y6 n76 kf)] rfl rfl ?_
   refine CO ?_
   refine LX 4 0 [] [[(ov (i6 ((kf+1:Nat):Int))),o0]] [Wr ((kf:Int)+1) (((kf+1:Nat):Int))] [(EG b23 nq cF),(EE n17),(Eo w46),(JC b23 nq cF),(J9 nq),(80,i6 ((kf+1:Nat):Int))] rfl ⟨BQ,Ae⟩ ?_
   refine BX [0,1,2,3,4,5,6,7,8,9,10] [(Ak w),(EK c z),(EL z b23 nq cF),(Fq c n17),(GK c n42),(mid (n42+1) w46),(He w46 lay47),(LW (w46.heap.size+1) ((mE kf)++[(0,(kf:Int),.slice none 0 0,kf)]) (kf+1)),(IU w46 c i aA cA aO cO),(Iq c i aO cO z),(Hm c i aA cA z)] rfl rfl ?_
   refine BK [1,2,10,78,79,80] [(EG b23 nq cF),(EE n17),(Eo w46),(JC b23 nq cF),(J9 nq),(80,i6 ((kf+1:Nat):Int))] ?_
   refine BO (fun a w' hs=>⟨nq - (kf+1),by omega,(n76+2),(kf+1),rfl,by omega,by omega,(by(try dsimp only[IU,GK,YO,Y6,He,Fq,EK,Iq,Hm,EL,NQ,JC,EG,H7,Eo,J9,H9,EE,TP]at hs ⊢);rw[mE_succ];exact hs)⟩)
  refine Au 16 0 [0] [[oF],[o0,o0,o0]] [BF ((kf:Int)<(((IB nq).length:Nat):Int))] [(Eo w46),(OG b23 nq cF),(OU nq),(146,i6 0)] rfl ⟨bf,Ae⟩ ?_
  refine Du (fun m a w'=>∃ (n90:Nat) (kg:Nat),m=nq - kg∧n76≤n90∧(kg≤nq)∧St 165 [(Eo w46),(OG b23 nq cF),(OU nq),(146,Ac kg)] [] ⟨w,n90,[(Ak w),(EK c z),(EL z b23 nq cF),(Fq c n17),(GK c n42),(mid (n42+1) w46),(He w46 lay47),(LW (w46.heap.size+1) (mD nq kg) nq),(IU w46 c i aA cA aO cO),(Iq c i aO cO z),(Hm c i aA cA z)]⟩ a w') (nq - 0) ?_ ?_
  ·intro a w' hs;exact⟨n76,0,rfl,Nat.le_refl _,Nat.zero_le _,(by(try dsimp only[IU,GK,YO,Y6,He,Fq,EK,Iq,Hm,EL,NQ,OG,JC,EG,H7,Eo,OU,J9,H9,EE]at hs ⊢);rw[show kf=nq from by omega]at hs;exact hs)⟩
  rintro m a w' ⟨n90,kg,rfl,hn89,hkkg,hs⟩
  refine(?_:G Tryd.prog 165 [(Eo w46),(OG b23 nq cF),(OU nq),(146,Ac kg)] [] ⟨w,n90,[(Ak w),(EK c z),(EL z b23 nq cF),(Fq c n17),(GK c n42),(mid (n42+1) w46),(He w46 lay47),(LW (w46.heap.size+1) (mD nq kg) nq),(IU w46 c i aA cA aO cO),(Iq c i aO cO z),(Hm c i aA cA z)]⟩ _ _ _) a w' hs
  clear hs a w'
  refine CB ?_
  by_cases h91:(kg:Int)<(((IB nq).length:Nat):Int)
  ·refine q_c 18 0 [1,1] [[oT],[(oi kg),(oa [.via 2 (i6 0),.via 2 (Ac kg),.via 2 (.slice none 0 0)]),o0,(an 3 11)],[o0,(a1 11),o0,o0]] [BT ((kg:Int)<(((IB nq).length:Nat):Int)),CW kg,kg<(IB nq).length,Ce,∀ w',Ch.holds (EL z b23 nq cF) w'→w'.cell? ⟨b23,0+GZ 3 kg,none⟩=some (i6 0),∀ w',Ch.holds (EL z b23 nq cF) w'→w'.cell? ⟨b23,0+GZ 3 kg+1,none⟩=some (Ac kg),∀ w',Ch.holds (EL z b23 nq cF) w'→w'.cell? ⟨b23,0+GZ 3 kg+2,none⟩=some (.slice none 0 0),Qb n90,Qb n90,Qb n90,Qb n90] [(Eo w46),(OG b23 nq cF),(OU nq),(146,Ac kg),(19,pt n90),(153,.bool true)] ⟨w,n90+1,[(Ak w),(EK c z),(EL z b23 nq cF),(Fq c n17),(GK c n42),(mid (n42+1) w46),(He w46 lay47),(LW (w46.heap.size+1) (mD nq kg) nq),(IU w46 c i aA cA aO cO),(Iq c i aO cO z),(Hm c i aA cA z),(YZ n90 kg)]⟩ rfl ⟨bt,rfl,(by omega),rfl,Fp (sz:=3) (j:=kg) (k:=0) (fun _=>rfl) (by omega) (by rw[XL (by omega)];rfl),Fp (sz:=3) (j:=kg) (k:=1) (fun _=>rfl) (by omega) (by rw[XL (by omega)];rfl),Fp (sz:=3) (j:=kg) (k:=2) (fun _=>rfl) (by omega) (by rw[XL (by omega)];rfl),rfl,rfl,rfl,rfl,Ae⟩ ?_
   refine DX 9 [0,1,2,3,4,5,6,7,8,9,10,11] [(Ak w),(EK c z),(EL z b23 nq cF),(Fq c n17),(GK c n42),(mid (n42+1) w46),(He w46 lay47),(LW (w46.heap.size+1) (mD nq kg) nq),(IU w46 c i aA cA aO cO),(Iq c i aO cO z),(Hm c i aA cA z),(YZ n90 kg)] rfl rfl ?_
   refine CU [(0,o0),(1,o0),(2,o0),(3,(a1 8)),(4,o0),(5,(a1 11)),(6,o0),(7,(a1 11)),(8,o0)] [10,144,145,146,157,162] [Qb (w46.heap.size+2),Qb n90,Qb n90] (D7 9 1) [(Eo w46),(OG b23 nq cF),(OU nq),(146,Ac kg),(157,.map (some (w46.heap.size+1))),(162,.agg #[i6 0,Ac kg])] ⟨rfl,rfl,rfl,Ae⟩ ?_
   refine Bl 9 ?_
   refine wo_delP 7 (mD nq kg) 0 (kg:Int) (.slice none 0 0) (w46.heap.size+1) nq 0 72 none (mD_at (by omega)) Wi rfl ?_
   refine Dw [10,144,145,146] [(Eo w46),(OG b23 nq cF),(OU nq),(146,Ac kg)] ?_
   refine DU 10 [0,1,2,3,4,5,6,7,8,9,10,11] [(Ak w),(EK c z),(EL z b23 nq cF),(Fq c n17),(GK c n42),(mid (n42+1) w46),(He w46 lay47),(LW (w46.heap.size+1) ((mD nq kg).eraseIdx 0) nq),(IU w46 c i aA cA aO cO),(Iq c i aO cO z),(Hm c i aA cA z),(YZ n90 kg)] rfl rfl ?_
   refine CO ?_
   refine LX 4 0 [] [[(ov (i6 ((kg+1:Nat):Int))),o0]] [Wr ((kg:Int)+1) (((kg+1:Nat):Int))] [(Eo w46),(OG b23 nq cF),(OU nq),(146,i6 ((kg+1:Nat):Int))] rfl ⟨BQ,Ae⟩ ?_
   refine BX [0,1,2,3,4,5,6,7,8,9,10] [(Ak w),(EK c z),(EL z b23 nq cF),(Fq c n17),(GK c n42),(mid (n42+1) w46),(He w46 lay47),(LW (w46.heap.size+1) ((mD nq kg).eraseIdx 0) nq),(IU w46 c i aA cA aO cO),(Iq c i aO cO z),(Hm c i aA cA z)] rfl rfl ?_
   refine BK [10,144,145,146] [(Eo w46),(OG b23 nq cF),(OU nq),(146,i6 ((kg+1:Nat):Int))] ?_
   refine BO (fun a w' hs=>⟨nq - (kg+1),by omega,(n90+1),(kg+1),rfl,by omega,by omega,(by(try dsimp only[IU,GK,YZ,He,Fq,EK,Iq,Hm,EL,NQ,OG,JC,EG,H7,Eo,OU,J9,H9,EE]at hs ⊢);rw[←mD_next (by omega)];exact hs)⟩)
  refine Au 15 0 [0] [[oF],[o0,o0,o0]] [BF ((kg:Int)<(((IB nq).length:Nat):Int))] [(4,pt (w46.heap.size+2)),(5,i6 0)] rfl ⟨bf,Ae⟩ ?_
  refine Az [] [] (.tuple #[pt (w46.heap.size+2),i6 0]) Ae ?_
  intro w92 hw92
  refine⟨_,_,rfl,hw92, ?_⟩
  refine Bq 8 1 [] [[o0,o0,o0,o0,o0],[o0],[(an 7 1)]] [Qb z,Qb z,Qb z,Qb z,Qb z,Qb z,Qb z] [(V6 b23 nq cF),(7,pt (w46.heap.size+2)),(8,i6 0),(9,i6 0),(39,.agg (Ai.arr c))] rfl ⟨rfl,rfl,rfl,rfl,rfl,rfl,rfl,Ae⟩ ?_
  refine AY 9 #[.agg (Ai.arr c)] (some 40) (.tuple #[i6 ((EI c).e),.agg #[i6 ((EI c).Ag.First),i6 ((EI c).Ag.Second)]]) (fun w93 hw93=>Ui w93 c (hc.ext (hw93.ext rfl) (fun _ h=>h))) (fun n94 (hn95:n90≤n94) => ?_)
  refine F8 20 11 [0,0] [[o0,o0,o0,o0,o0,(an 2 11)],[o0,oF],[o0,o0,oF],[o0,o0,o0,o0,o0,o0,o0,o0,o0,o0,o0]] [Qb n94,Qb n94,NF ((EI c).e) 0,BF (((((IB nq).length:Nat):Int):Int) > 4096)] [(58,.bool true)] ⟨w,n94+1,[(Ak w),(EK c z),(EL z b23 nq cF),(Fq c n17),(GK c n42),(mid (n42+1) w46),(He w46 lay47),(LW (w46.heap.size+1) (mD nq kg) nq),(IU w46 c i aA cA aO cO),(Iq c i aO cO z),(Hm c i aA cA z),(bk n94 #[i6 ((EI c).Ag.First),i6 ((EI c).Ag.Second)] 38)]⟩ rfl ⟨rfl,rfl,nf,bf,Ae⟩ ?_
  refine AY 7 #[] (some 59) (.bool true) (fun w96 hw96=>OL w96 (hL.ext (hw96.ext rfl))) (fun n97 (hn98:n94+1≤n97) => ?_)
  refine Bq 3 0 [] [[o0,o0]] [] [(4,.bool true)] rfl Ae ?_
  refine Az [] [] (.bool true) Ae ?_
  intro w99 hw99
  exact⟨rfl,AA hw99⟩
 refine Au 9 0 [1] [[o0,oT],[o0,o0]] [NT ((EI c).e) 0] [(4,.pointer none),(5,i6 221)] rfl ⟨nt,Ae⟩ ?_
 refine Az [] [] (.tuple #[.pointer none,i6 221]) Ae ?_
 intro w100 hw100
 refine⟨_,_,rfl,hw100, ?_⟩
 refine Bq 8 1 [] [[o0,o0,o0,o0,o0],[o0],[(an 7 1)]] [Qb z,Qb z,Qb z,Qb z,Qb z,Qb z,Qb z] [(V6 b23 nq cF),(7,.pointer none),(8,i6 221),(9,i6 0),(39,.agg (Ai.arr c))] rfl ⟨rfl,rfl,rfl,rfl,rfl,rfl,rfl,Ae⟩ ?_
 refine AY 9 #[.agg (Ai.arr c)] (some 40) (.tuple #[i6 ((EI c).e),.agg #[i6 ((EI c).Ag.First),i6 ((EI c).Ag.Second)]]) (fun w101 hw101=>Ui w101 c (hc.ext (hw101.ext rfl) (fun _ h=>h))) (fun n102 (hn103:n42+1≤n102) => ?_)
 refine F8 21 11 [1,0] [[o0,o0,o0,o0,o0,(an 2 5)],[o0,oT],[o0],[o0,o0,oF],[o0,o0,o0,o0,o0,o0,o0,o0,o0,o0,o0]] [Qb n102,Qb n102,NT ((EI c).e) 0,BF (((((IB nq).length:Nat):Int):Int) > 4096)] [(58,.bool true)] ⟨w,n102+1,[(Ak w),(EK c z),(EL z b23 nq cF),(Fq c n17),(GK c n42),(bk n102 #[i6 ((EI c).Ag.First),i6 ((EI c).Ag.Second)] 38)]⟩ rfl ⟨rfl,rfl,nt,bf,Ae⟩ ?_
 refine AY 7 #[] (some 59) (.bool true) (fun w104 hw104=>OL w104 (hL.ext (hw104.ext rfl))) (fun n105 (hn106:n102+1≤n105) => ?_)
 refine Bq 3 0 [] [[o0,o0]] [] [(4,.bool true)] rfl Ae ?_
 refine Az [] [] (.bool true) Ae ?_
 intro w107 hw107
 exact⟨rfl,AA hw107⟩
end Go.Proofs.YtjdmhijaanmccaaDoor.Dv
namespace Go.Proofs.YtjdmhijaanmccaaDoor.Row
open Go.ChangeShapes Go.WideShapes Go.ChangeAt Go.RowKit
set_option linter.unusedVariables false
section
variable {H:Type}{enc:TypeId×Value→H}{P:Program}
theorem trodAll_below(hl:laidOutB P=true){W W':World}(hb:Below W.heap.size W W') :
   ∀ {ts:List TypeId} {vs:List Value} {ds:List (DataW H)} {ps:List MemPlace},
     ts.all (fun t=>P.readableRec t&&decide (t<P.types.size))=true→(∀ x∈ps,x.block<W.heap.size) →
     DataW.TrodAll enc P W 0 (fun _=>true) true ts vs ds ps→DataW.TrodAll enc P W' 0 (fun b=>decide (b<W.heap.size)) true ts vs ds ps:=by
 intro ts
 induction ts with
 | nil =>
   intro vs ds ps _ _ h
   obtain⟨rfl,rfl,rfl⟩:=trodAll_nil h
   exact trodAll_mk0
 | cons t ts ih =>
   intro vs ds ps ht hlt h
   obtain⟨v0,vs0,d0,ds0,p0,q0,rfl,rfl,rfl,h0,r0⟩:=trodAll_cons h
   simp only[List.all_cons,Bool.and_eq_true,decide_eq_true_eq]at ht
   refine trodAll_cons_mk (Below.trod hl ht.1.1 ht.1.2 h0 hb (fun x hx=>hlt x (by simp[hx]))) (ih ht.2 (fun x hx=>hlt x (by simp[hx])) r0)
theorem post_true(hl:laidOutB P=true){f:Func}{s:ChangeSpec}{tb:TypeId}{W W':World}{args:Array Value}{ds gs:List (DataW H)}{before:List MemPlace}
   (hts:f.params.toList.all (fun t=>P.readableRec t&&decide (t<P.types.size))=true) (hres:f.resultTypes = #[tb]) (hbool:P.underlying tb=some .bool)
   (hvars:s.vars=[]) (hfn:s.fn H (ds++gs)={ results:=[.lit (.bool true)],args:=ds })
   (hW:DataW.Whole enc P f.params.toList s.vars false W args.toList ds gs before) (bel:Below W.heap.size W W') :
   s.post enc P f false true false false W args (.bool true) W':=by
 have hW':=hW
 obtain⟨p,q,hA,hV,rfl,hfz,hnd⟩:=hW
 rw[hvars]at hV
 obtain⟨rfl,rfl⟩:=trodVars_none hV
 have hlt:∀ x∈p,x.block<W.heap.size:=fun x hx=>hW'.lt x (by simp[hx])
 refine⟨ds,[],_,[],p,[],hW', ?_, ?_, ?_,bel.frame _,fun h=>by cases h⟩
 · rw[hfn,hres];exact trodAll_mk1 (shut_bool hbool _)
 · rw[hfn];exact trodAll_below hl bel hts hlt hA
 · rw[hfn,hvars];rfl
end
end Go.Proofs.YtjdmhijaanmccaaDoor.Row
