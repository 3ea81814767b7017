/- Packed: Lb, Lc, Le, Lf, Lg, Lh, Li, Lz, Ah, Ai, Aj, EngX, Ak, An, EngH, EngZ. No conditions. -/
import Derived.Test.YtekjfiegdpoajaaGreatDoorPb4
import Derived.WalkKit
import Derived.Deep.Slices
import Derived.SizedLaws
import Derived.WideShapes
import Derived.DataReads
set_option maxHeartbeats 4000000
namespace Go.Proofs.YtekjfiegdpoajaaGreatDoor.Ly
open Go Go.Proofs.YtekjfiegdpoajaaGreatDoor.Eng Go.Proofs.YtekjfiegdpoajaaGreatDoor.Mem
set_option linter.unusedSimpArgs false
set_option linter.unusedVariables false
set_option maxRecDepth 100000
def IR(h:AQ):Int:=if h.Words<1∨h.Words > 16 then 0 else if h.Kind=1 then h.Words else if h.Kind=2∧1≤h.Dj∧h.Dj≤8 then h.Dj*(1+h.Words)else 0
def CJ(h:AQ):Int:=if IR h=0 then 0 else if h.Kind=1 then 2+h.Words else 1+IR h
def portOf(h:AQ):Int:=if IR h=0 then 0 else 3+IR h
theorem Xe(h:AQ):0≤IR h∧IR h≤136:=by
 unfold IR
 split
 ·omega
 split
 ·omega
 split
 ·rename_i h1 h2 h3
  have hd:h.Dj=1∨h.Dj=2∨h.Dj=3∨h.Dj=4∨h.Dj=5∨h.Dj=6∨h.Dj=7∨h.Dj=8:=by omega
  rcases hd with e | e | e | e | e | e | e | e <;> rw[e] <;> omega
 omega
theorem TF{h:AQ}(h1:h.Words<1∨h.Words > 16):IR h=0:=by unfold IR;rw[if_pos h1]
theorem body_b{h:AQ}(h1:¬ h.Words<1)(h2:¬ 16<h.Words)(h3:h.Kind=1):IR h=h.Words:=by unfold IR;rw[if_neg (by omega),if_pos h3]
theorem body_c{h:AQ}(h1:¬ h.Words<1)(h2:¬ 16<h.Words)(h3:¬ h.Kind=1)(h4:h.Kind=2)(h5:1≤h.Dj)(h6:h.Dj≤8):IR h=h.Dj*(1+h.Words):=by unfold IR;rw[if_neg (by omega),if_neg h3,if_pos ⟨h4,h5,h6⟩]
theorem Uh{h:AQ}(h1:¬ h.Words<1)(h2:¬ 16<h.Words)(h3:¬ h.Kind=1)(h4:¬ (h.Kind=2∧1≤h.Dj∧h.Dj≤8)):IR h=0:=by unfold IR;rw[if_neg (by omega),if_neg h3,if_neg h4]
theorem body_w(h:AQ):IR h=0∨(1≤h.Words∧h.Words≤16):=by
 unfold IR;split
 ·exact .inl rfl
 right;omega
theorem Ku{h:AQ}(h1:IR h=0):0=CJ h:=by unfold CJ;rw[if_pos h1]
theorem QO{h:AQ}(h1:¬ h.Words<1)(h2:¬ 16<h.Words)(h3:h.Kind=1):2+h.Words=CJ h:=by unfold CJ;rw[body_b h1 h2 h3,if_neg (by omega),if_pos h3]
theorem QV{h:AQ}(h1:¬ h.Words<1)(h2:¬ 16<h.Words)(h3:¬ h.Kind=1)(h4:h.Kind=2)(h5:1≤h.Dj)(h6:h.Dj≤8):1+h.Dj*(1+h.Words)=CJ h:=by
 unfold CJ;rw[body_c h1 h2 h3 h4 h5 h6,if_neg ?_,if_neg h3]
 have:=Int.mul_pos (show 0<h.Dj by omega) (show 0<1+h.Words by omega)
 omega
theorem Uj(h:AQ):0≤CJ h∧CJ h≤137:=by
 have hb:=Xe h
 unfold CJ
 split
 ·omega
 split
 ·rename_i h1 h2
  unfold IR at h1
  split at h1
  ·exact absurd rfl h1
  omega
 omega
theorem Zr(h:AQ):0≤portOf h∧portOf h≤139:=by
 have hb:=Xe h
 unfold portOf
 split <;> omega
theorem JR(h:AQ):CJ h=0↔portOf h=0:=by
 have hb:=Xe h
 unfold CJ portOf
 split
 ·simp
 split
 ·rename_i h1 h2
  unfold IR at h1 hb
  constructor
  ·intro e
   split at h1
   ·exact absurd rfl h1
   omega
  intro e;exfalso;unfold IR at e;omega
 omega
theorem port_b{h:AQ}(h1:¬ CJ h=0)(h2:h.Kind=1):CJ h+1=portOf h:=by
 unfold CJ portOf at *
 split at h1
 ·exact absurd rfl h1
 rename_i hb
 rw[if_neg hb,if_neg hb,if_pos h2]
 unfold IR at hb ⊢
 split at hb
 ·exact absurd rfl hb
 rename_i h3
 rw[if_neg h3,if_pos h2];omega
theorem port_c{h:AQ}(h1:¬ CJ h=0)(h2:¬ h.Kind=1):CJ h+2=portOf h:=by
 unfold CJ portOf at *
 split at h1
 ·exact absurd rfl h1
 rename_i hb
 rw[if_neg hb,if_neg hb,if_neg h2];omega
theorem OY(w:World)(h:AQ)(hh:AQ.ok Any w h):Calls Tryz.prog 148 #[.agg (AQ.arr h)] w fun e w'=>e = .returned (.int .i64 (CJ h))∧BH (fun _=>False) w w':=by
 obtain⟨z,hz⟩:∃ z,z=w.heap.size:=⟨_,rfl⟩
 refine BA (args:=[.agg (AQ.arr h)]) 40 ⟨w,z,[(Ak w)]⟩ Tryz.func148 rfl (by kernel_rfl) (by kernel_rfl) (En hz) ?_
 refine Cc [0] [(0,.agg (AQ.arr h))] ?_
 refine q_c 7 0 [] [[o0,o0]] [] [(1,pt z)] ⟨w,z+1,[(Ak w),(bk z (AQ.arr h) 49)]⟩ rfl Ae ?_
 by_cases h1:(h.Words:Int)<1
 ·refine A8 9 0 [1] [[o0,(a1 1),oT,o0,o0,o0],[o0]] [Qb z,BT ((h.Words:Int)<1)] [(2,i6 0)] rfl ⟨rfl,bt,Ae⟩ ?_
  refine AP [] [] (i6 0) Ae ?_
  intro w2 hw2
  refine⟨congrArg (fun n=>Ending.returned (i6 n)) (?_:(0:Int)=CJ h),Au hw2⟩
  first
   | exact Ku (TF (by omega))
   | exact QO (by omega) (by omega) (by omega)
   | exact QV (by omega) (by omega) (by omega) (by omega) (by omega) (by omega)
   | exact Ku (Uh (by omega) (by omega) (by omega) (by omega))
 by_cases h3:(16:Int)<h.Words
 ·refine A8 9 0 [1] [[o0,(a1 1),oF,o0,o0,(a1 1),oT,o0,o0],[o0]] [Qb z,BF ((h.Words:Int)<1),Qb z,BT ((h.Words:Int) > 16)] [(2,i6 0)] rfl ⟨rfl,bf,rfl,bt,Ae⟩ ?_
  refine AP [] [] (i6 0) Ae ?_
  intro w4 hw4
  refine⟨congrArg (fun n=>Ending.returned (i6 n)) (?_:(0:Int)=CJ h),Au hw4⟩
  first
   | exact Ku (TF (by omega))
   | exact QO (by omega) (by omega) (by omega)
   | exact QV (by omega) (by omega) (by omega) (by omega) (by omega) (by omega)
   | exact Ku (Uh (by omega) (by omega) (by omega) (by omega))
 refine A8 5 0 [0] [[o0,(a1 1),oF,o0,o0,(a1 1),oF,o0,o0]] [Qb z,BF ((h.Words:Int)<1),Qb z,BF ((h.Words:Int) > 16)] [(1,pt z),(3,.bool false)] rfl ⟨rfl,bf,rfl,bf,Ae⟩ ?_
 by_cases h5:(h.Kind:Int)=1
 ·refine A8 9 0 [1] [[o0,(a1 1),oT,o0],[o0,(a1 1),(ov (i6 (2+h.Words))),o0]] [Qb z,ET h.Kind 1,Qb z,Wr ((2:Int)+h.Words) (2+h.Words)] [(2,i6 (2+h.Words))] rfl ⟨rfl,et,rfl,Dk,Ae⟩ ?_
  refine AP [] [] (i6 (2+h.Words)) Ae ?_
  intro w6 hw6
  refine⟨congrArg (fun n=>Ending.returned (i6 n)) (?_:(2+h.Words:Int)=CJ h),Au hw6⟩
  first
   | exact Ku (TF (by omega))
   | exact QO (by omega) (by omega) (by omega)
   | exact QV (by omega) (by omega) (by omega) (by omega) (by omega) (by omega)
   | exact Ku (Uh (by omega) (by omega) (by omega) (by omega))
 refine A8 5 0 [0] [[o0,(a1 1),oF,o0]] [Qb z,EF h.Kind 1] [(1,pt z),(12,.bool false)] rfl ⟨rfl,ef,Ae⟩ ?_
 by_cases h7:(h.Kind:Int)=2
 ·by_cases h8:(h.Dj:Int)<1
  ·refine A8 12 0 [0] [[o0,(a1 1),oT,o0,o0,(a1 1),oF,o0,o0,o0,o0],[o0]] [Qb z,ET h.Kind 2,Qb z,BF ((h.Dj:Int)≥1)] [(2,i6 0)] rfl ⟨rfl,et,rfl,bf,Ae⟩ ?_
   refine AP [] [] (i6 0) Ae ?_
   intro w9 hw9
   refine⟨congrArg (fun n=>Ending.returned (i6 n)) (?_:(0:Int)=CJ h),Au hw9⟩
   first
    | exact Ku (TF (by omega))
    | exact QO (by omega) (by omega) (by omega)
    | exact QV (by omega) (by omega) (by omega) (by omega) (by omega) (by omega)
    | exact Ku (Uh (by omega) (by omega) (by omega) (by omega))
  by_cases h10:(8:Int)<h.Dj
  ·refine A8 12 0 [0] [[o0,(a1 1),oT,o0,o0,(a1 1),oT,o0,o0,o0,(a1 1),oF,o0,o0],[o0]] [Qb z,ET h.Kind 2,Qb z,BT ((h.Dj:Int)≥1),Qb z,BF ((h.Dj:Int)≤8)] [(2,i6 0)] rfl ⟨rfl,et,rfl,bt,rfl,bf,Ae⟩ ?_
   refine AP [] [] (i6 0) Ae ?_
   intro w11 hw11
   refine⟨congrArg (fun n=>Ending.returned (i6 n)) (?_:(0:Int)=CJ h),Au hw11⟩
   first
    | exact Ku (TF (by omega))
    | exact QO (by omega) (by omega) (by omega)
    | exact QV (by omega) (by omega) (by omega) (by omega) (by omega) (by omega)
    | exact Ku (Uh (by omega) (by omega) (by omega) (by omega))
  refine A8 6 0 [1] [[o0,(a1 1),oT,o0,o0,(a1 1),oT,o0,o0,o0,(a1 1),oT,o0,o0]] [Qb z,ET h.Kind 2,Qb z,BT ((h.Dj:Int)≥1),Qb z,BT ((h.Dj:Int)≤8)] [(1,pt z),(19,.bool true)] rfl ⟨rfl,et,rfl,bt,rfl,bt,Ae⟩ ?_
  have hm12:=mul_bd (a:=h.Dj) (b:=1+h.Words) (by omega) (by omega) (by omega) (by omega)
  refine Bv 3 0 [] [[o0,(a1 1),o0,(a1 1),(ov (i6 (1+h.Words))),(ov (i6 (h.Dj*(1+h.Words)))),(ov (i6 (1+(h.Dj*(1+h.Words))))),o0]] [Qb z,Qb z,Wr ((1:Int)+h.Words) (1+h.Words),Wr ((h.Dj:Int)*(1+h.Words)) (h.Dj*(1+h.Words)),Wr ((1:Int)+(h.Dj*(1+h.Words))) (1+(h.Dj*(1+h.Words)))] [(2,i6 (1+(h.Dj*(1+h.Words))))] rfl ⟨rfl,rfl,Dk,Dk,Dk,Ae⟩ ?_
  refine AP [] [] (i6 (1+(h.Dj*(1+h.Words)))) Ae ?_
  intro w13 hw13
  refine⟨congrArg (fun n=>Ending.returned (i6 n)) (?_:(1+(h.Dj*(1+h.Words)):Int)=CJ h),Au hw13⟩
  first
   | exact Ku (TF (by omega))
   | exact QO (by omega) (by omega) (by omega)
   | exact QV (by omega) (by omega) (by omega) (by omega) (by omega) (by omega)
   | exact Ku (Uh (by omega) (by omega) (by omega) (by omega))
 refine A8 12 0 [0] [[o0,(a1 1),oF,o0,o0,o0,o0,o0],[o0]] [Qb z,EF h.Kind 2] [(2,i6 0)] rfl ⟨rfl,ef,Ae⟩ ?_
 refine AP [] [] (i6 0) Ae ?_
 intro w14 hw14
 refine⟨congrArg (fun n=>Ending.returned (i6 n)) (?_:(0:Int)=CJ h),Au hw14⟩
 first
  | exact Ku (TF (by omega))
  | exact QO (by omega) (by omega) (by omega)
  | exact QV (by omega) (by omega) (by omega) (by omega) (by omega) (by omega)
  | exact Ku (Uh (by omega) (by omega) (by omega) (by omega))
theorem VJ(w:World)(h:AQ)(hh:AQ.ok Any w h):Calls Tryz.prog 149 #[.agg (AQ.arr h)] w fun e w'=>e = .returned (.int .i64 (portOf h))∧BH (fun _=>False) w w':=by
 obtain⟨z,hz⟩:∃ z,z=w.heap.size:=⟨_,rfl⟩
 refine BA (args:=[.agg (AQ.arr h)]) 17 ⟨w,z,[(Ak w)]⟩ Tryz.func149 rfl (by kernel_rfl) (by kernel_rfl) (En hz) ?_
 have hbd:=Xe h;have hsd:=Uj h;have hwd:=body_w h;have hsp:=JR h
 refine Cc [0] [(0,.agg (AQ.arr h))] ?_
 refine q_c 6 1 [] [[o0,o0],[(an 3 1)]] [Qb z,Qb z,Qb z] [(1,pt z),(4,.agg (AQ.arr h))] ⟨w,z+1,[(Ak w),(bk z (AQ.arr h) 49)]⟩ rfl ⟨rfl,rfl,rfl,Ae⟩ ?_
 refine BV 148 #[.agg (AQ.arr h)] (some 5) (i6 (CJ h)) (fun w1 hw1=>OY w1 h (hh.ext (hw1.ext rfl) (fun _ h=>h))) (fun n2 (hn3:z+1≤n2) => ?_)
 refine Bv 4 0 [] [[o0]] [] [(1,pt z),(3,i6 (CJ h))] rfl Ae ?_
 by_cases h4:(CJ h:Int)=0
 ·refine A8 9 0 [1] [[o0,oT,o0],[o0]] [ET (CJ h) 0] [(2,i6 0)] rfl ⟨et,Ae⟩ ?_
  refine AP [] [] (i6 0) Ae ?_
  intro w5 hw5
  refine⟨congrArg (fun n=>Ending.returned (i6 n)) (?_:(0:Int)=portOf h),Au hw5⟩
  first
   | (have:=hsp.1 (by omega);omega)
   | exact port_b (by omega) (by omega)
   | exact port_c (by omega) (by omega)
 refine A8 5 0 [0] [[o0,oF,o0]] [EF (CJ h) 0] [(1,pt z),(3,i6 (CJ h)),(8,.bool false)] rfl ⟨ef,Ae⟩ ?_
 by_cases h6:(h.Kind:Int)=1
 ·refine A8 9 0 [1] [[o0,(a1 1),oT,o0],[o0,(ov (i6 ((CJ h)+1))),o0]] [Qb z,ET h.Kind 1,Wr ((CJ h:Int)+1) ((CJ h)+1)] [(2,i6 ((CJ h)+1))] rfl ⟨rfl,et,Dk,Ae⟩ ?_
  refine AP [] [] (i6 ((CJ h)+1)) Ae ?_
  intro w7 hw7
  refine⟨congrArg (fun n=>Ending.returned (i6 n)) (?_:((CJ h)+1:Int)=portOf h),Au hw7⟩
  first
   | (have:=hsp.1 (by omega);omega)
   | exact port_b (by omega) (by omega)
   | exact port_c (by omega) (by omega)
 refine A8 9 0 [0] [[o0,(a1 1),oF,o0],[o0,(ov (i6 ((CJ h)+2))),o0]] [Qb z,EF h.Kind 1,Wr ((CJ h:Int)+2) ((CJ h)+2)] [(2,i6 ((CJ h)+2))] rfl ⟨rfl,ef,Dk,Ae⟩ ?_
 refine AP [] [] (i6 ((CJ h)+2)) Ae ?_
 intro w8 hw8
 refine⟨congrArg (fun n=>Ending.returned (i6 n)) (?_:((CJ h)+2:Int)=portOf h),Au hw8⟩
 first
  | (have:=hsp.1 (by omega);omega)
  | exact port_b (by omega) (by omega)
  | exact port_c (by omega) (by omega)
theorem take_snoc{α:Type}[Inhabited α]{xs:List α}{k:Nat}(h:k<xs.length):xs.take (k+1)=xs.take k++[gd xs k]:=by
 rw[List.take_succ_eq_append_getElem h,E5 h]
def Rl(k:Int)(b:Bool)(q:BR):Bool:=decide (q.Channel=k)&&(q.Source==b)
def endsN(x:Ap)(k:Int)(b:Bool):Nat:=x.Aq.xs.countP (Rl k b)
theorem src_t{q:BR}{k:Int}{b:Bool}(h1:q.Channel=k)(h2:q.Source=b):Rl k b q=true:=by simp[Rl,h1,h2]
theorem src_f1{q:BR}{k:Int}{b:Bool}(h1:¬ q.Channel=k):Rl k b q=false:=by simp[Rl,h1]
theorem src_f2{q:BR}{k:Int}{b:Bool}(h2:¬ q.Source=b):Rl k b q=false:=by simp[Rl,h2]
def Yh{α:Type}(f:α→Nat)(xs:List α)(i:Nat):Nat:=((xs.take i).map f).sum
theorem sumN_succ{α:Type}[Inhabited α]{f:α→Nat}{xs:List α}{i:Nat}(h:i<xs.length):Yh f xs (i+1)=Yh f xs i+f (gd xs i):=by
 unfold Yh;rw[take_snoc h];simp
def LZ(c:Ai)(k:Nat)(b:Bool):Nat:=Yh (fun x=>endsN x k b) c.Ac.xs c.Ac.xs.length
def LV(c:Ai)(k:Nat):Bool:=decide (portOf (gd c.Aj.xs k)≠0) && !(decide ((gd c.Aj.xs k).Kind=1)&&decide ((gd c.Aj.xs k).Dj≠0))&&decide (LZ c k true=1)&&decide (1≤LZ c k false∧LZ c k false≤4)
def FQ(c:Ai):Bool:=decide (0≤c.Kernel∧c.Kernel<1024)&&decide (c.Ac.xs.length≤8)&&decide (c.Aj.xs.length≤16)&&c.Ac.xs.all (FN c.Aj.xs.length)&&(List.range c.Aj.xs.length).all (LV c)
theorem VC{c:Ai}(h:¬ (0≤c.Kernel∧c.Kernel<1024)∨8<c.Ac.xs.length∨16<c.Aj.xs.length):FQ c=false:=by
 unfold FQ
 rcases h with h | h | h
 ·rw[decide_eq_false h];rfl
 ·rw[decide_eq_false (show ¬ c.Ac.xs.length≤8 by omega)];simp
 rw[decide_eq_false (show ¬ c.Aj.xs.length≤16 by omega)];simp
theorem conf_no2{c:Ai}{k:Nat}(hk:k<c.Ac.xs.length)(h:FN c.Aj.xs.length (gd c.Ac.xs k)=false):FQ c=false:=by
 unfold FQ
 rw[Ov hk h];simp
theorem Ol{c:Ai}{k:Nat}(hk:k<c.Aj.xs.length)(h:LV c k=false):FQ c=false:=by
 unfold FQ
 have:(List.range c.Aj.xs.length).all (LV c)=false:=by
  rw[List.all_eq_false];exact⟨k,List.mem_range.2 hk,by simp[h]⟩
 rw[this];simp
theorem conf_yes{c:Ai}(h1:0≤c.Kernel∧c.Kernel<1024)(h2:c.Ac.xs.length≤8)(h3:c.Aj.xs.length≤16)(h4:∀ i,i<c.Ac.xs.length→FN c.Aj.xs.length (gd c.Ac.xs i)=true)(h5:∀ i,i<c.Aj.xs.length→LV c i=true):FQ c=true:=by
 unfold FQ
 rw[decide_eq_true h1,decide_eq_true h2,decide_eq_true h3,PV h4]
 simp only[Bool.and_true,Bool.true_and,List.all_eq_true,List.mem_range]
 exact h5
theorem Sv{n:Nat}{x:Ap}(h:FN n x=true):x.Aq.xs.length≤8:=by
 unfold FN at h;simp only[Bool.and_eq_true,decide_eq_true_eq]at h;exact h.1.1.2
theorem part_regs{n:Nat}{x:Ap}(h:FN n x=true):x.Ah.xs.length≤8∧x.Ah.xs.all Qz=true:=by
 unfold FN at h;simp only[Bool.and_eq_true,decide_eq_true_eq]at h;exact⟨h.1.1.1,h.1.2⟩
theorem Qi{c:Ai}{k:Nat}(h:portOf (gd c.Aj.xs k)=0∨((gd c.Aj.xs k).Kind=1∧(gd c.Aj.xs k).Dj≠0)∨LZ c k true≠1∨LZ c k false<1∨4<LZ c k false):LV c k=false:=by
 unfold LV
 rcases h with h | ⟨h,h'⟩ | h | h | h
 ·simp[h]
 ·simp[h,h']
 ·simp[h]
 ·rw[decide_eq_false (show ¬ (1≤LZ c k false∧LZ c k false≤4)by omega)];simp
 rw[decide_eq_false (show ¬ (1≤LZ c k false∧LZ c k false≤4)by omega)];simp
theorem Zbn{c:Ai}{k:Nat}(h1:¬ portOf (gd c.Aj.xs k)=0)(h2:¬ ((gd c.Aj.xs k).Kind=1∧¬ (gd c.Aj.xs k).Dj=0))(h3:LZ c k true=1)(h4:1≤LZ c k false∧LZ c k false≤4):LV c k=true:=by
 unfold LV
 rw[decide_eq_true h3,decide_eq_true h4]
 simp[h1]
 by_cases e:(gd c.Aj.xs k).Kind=1
 ·exact .inr (Classical.not_not.1 (fun e2=>h2 ⟨e,e2⟩))
 exact .inl e
def Et(p:Nat)(x:Ap)(k:Int)(b:Bool)(j:Nat):List Gg:=((List.range j).filter (fun q=>Rl k b (gd x.Aq.xs q))).map (fun(q:Nat)=>(⟨(p:Int),(q:Int)⟩:Gg))
def EL(c:Ai)(k:Int)(b:Bool)(i:Nat):List Gg:=(List.range i).flatMap (fun p=>Et p (gd c.Ac.xs p) k b (gd c.Ac.xs p).Aq.xs.length)
def Dc(c:Ai)(k:Int)(b:Bool):List Gg:=EL c k b c.Ac.xs.length
theorem Wp{p:Nat}{x:Ap}{k:Int}{b:Bool}{j:Nat}(h:Rl k b (gd x.Aq.xs j)=true):Et p x k b (j+1)=Et p x k b j++[⟨(p:Int),(j:Int)⟩]:=by
 unfold Et;rw[List.range_succ,List.filter_append,List.map_append];simp[h]
theorem Ri{p:Nat}{x:Ap}{k:Int}{b:Bool}{j:Nat}(h:Rl k b (gd x.Aq.xs j)=false):Et p x k b (j+1)=Et p x k b j:=by
 unfold Et;rw[List.range_succ,List.filter_append,List.map_append];simp[h]
theorem TY{p:Nat}{x:Ap}{k:Int}{b:Bool}{j:Nat}:(Et p x k b j).length≤j:=by
 unfold Et;rw[List.length_map];exact Nat.le_trans (List.length_filter_le _ _) (by simp)
theorem Rj{c:Ai}{k:Int}{b:Bool}{i:Nat}:EL c k b (i+1)=EL c k b i++Et i (gd c.Ac.xs i) k b (gd c.Ac.xs i).Aq.xs.length:=by
 unfold EL;rw[List.range_succ,List.flatMap_append];simp
theorem VS{c:Ai}{k:Int}{b:Bool}(hp:∀ i,i<c.Ac.xs.length→(gd c.Ac.xs i).Aq.xs.length≤8):∀ (i:Nat),i≤c.Ac.xs.length→(EL c k b i).length≤8*i
 | 0,_=>by simp[EL]
 | i+1,h=>by
  have h1:=VS (k:=k) (b:=b) hp i (by omega)
  have h2:=hp i (by omega)
  have h3:=TY (p:=i) (x:=gd c.Ac.xs i) (k:=k) (b:=b) (j:=(gd c.Ac.xs i).Aq.xs.length)
  rw[Rj,List.length_append];omega
theorem Zas(xs:List BR)(p:BR→Bool):∀ (j:Nat),j≤xs.length→((List.range j).filter (fun q=>p (gd xs q))).length=(xs.take j).countP p
 | 0,_=>by simp
 | j+1,h=>by
  rw[List.range_succ,List.filter_append,List.length_append,Zas xs p j (by omega),take_snoc (by omega),List.countP_append]
  cases hp:p (gd xs j) <;> simp[hp]
theorem Zb{c:Ai}{k:Int}{b:Bool}:∀ (i:Nat),i≤c.Ac.xs.length→(EL c k b i).length=Yh (fun x=>endsN x k b) c.Ac.xs i
 | 0,_=>by simp[EL,Yh]
 | i+1,h=>by
  rw[Rj,List.length_append,Zb i (by omega),sumN_succ (by omega)]
  congr 1
  unfold Et endsN
  rw[List.length_map,Zas _ _ _ (Nat.le_refl _),List.take_length]
theorem Sz(c:Ai)(k:Nat)(b:Bool):(Dc c k b).length=LZ c k b:=Zb _ (Nat.le_refl _)
section
variable (n2:Nat)(y11:Ap)(z:Nat)(c:Ai)(aD2:Option Addr)(ch:Int)(i j cD2:Nat)(aS2:Option Addr)(cS2:Nat)(aD:Option Addr)(cD:Nat)(aS:Option Addr)(cS b4:Nat)(o5 b15 o16:Nat)
abbrev FK:=bk n2 (Ap.arr y11) 57
abbrev ED:=bk z (Ai.arr c) 27
abbrev EU:=BB z 216 2 Gg.cells (.slice aD2 ((EL c ch false i++Et i y11 ch false j).length) cD2) (EL c ch false i++Et i y11 ch false j)
abbrev EY:=BB z 216 2 Gg.cells (.slice aS2 ((EL c ch true i++Et i y11 ch true j).length) cS2) (EL c ch true i++Et i y11 ch true j)
abbrev EX:=BB z 216 2 Gg.cells (.slice aD ((EL c ch false i).length) cD) (EL c ch false i)
abbrev G7:=BB z 216 2 Gg.cells (.slice aS ((EL c ch true i).length) cS) (EL c ch true i)
abbrev Fa:Dv:=(5,.slice aD2 ((EL c ch false i++Et i y11 ch false j).length) cD2)
abbrev EW:Dv:=(4,.slice aS2 ((EL c ch true i++Et i y11 ch true j).length) cS2)
abbrev EH:Dv:=(11,.slice (some ⟨b4,o5,none⟩) c.Ac.xs.length c.Ac.cap)
abbrev FT:Dv:=(19,.slice (some ⟨b15,o16,none⟩) y11.Aq.xs.length y11.Aq.cap)
abbrev Eb:Dv:=(11,.slice c.Ac.a c.Ac.xs.length c.Ac.cap)
abbrev EC:Dv:=(19,.slice y11.Aq.a y11.Aq.xs.length y11.Aq.cap)
abbrev DZ:=(12,Aa c.Ac.xs.length)
abbrev GL:=(20,Aa y11.Aq.xs.length)
abbrev Jp:Dv:=(5,.slice aD ((EL c ch false i).length) cD)
abbrev KA:=(21,i6 ((j+1:Nat):Int))
end
theorem Qo(w:World)(c:Ai)(ch:Int)(hc:Ai.ok Any w c)(hl:c.Ac.xs.length≤8)(hp:∀ i,i<c.Ac.xs.length→(gd c.Ac.xs i).Aq.xs.length≤8):Calls Tryz.prog 147 #[.agg (Ai.arr c),.int .i64 ch] w fun e w'=>∃ a1 c1 a2 c2,e = .returned (.tuple #[.slice a1 (Dc c ch true).length c1,.slice a2 (Dc c ch false).length c2])∧FV Gg.cells 2 (New w.heap.size) w' ⟨a1,c1,Dc c ch true⟩∧FV Gg.cells 2 (New w.heap.size) w' ⟨a2,c2,Dc c ch false⟩∧BH (fun _=>False) w w':=by
 obtain⟨z,hz⟩:∃ z,z=w.heap.size:=⟨_,rfl⟩
 refine BA (args:=[.agg (Ai.arr c),i6 ch]) 50 ⟨w,z,[(Ak w)]⟩ Tryz.func147 rfl (by kernel_rfl) (by kernel_rfl) (En hz) ?_
 refine Cc [0,1] [(0,.agg (Ai.arr c)),(1,i6 ch)] ?_
 refine q_c 10 0 [] [[o0,o0,o0],[o0,(a1 1),o0,o0]] [Qb z] [(1,i6 ch),(4,.slice none 0 0),(5,.slice none 0 0),(Eb c),(DZ c),(13,i6 0)] ⟨w,z+1,[(Ak w),(ED z c)]⟩ rfl ⟨rfl,Ae⟩ ?_
 refine N8 z 216 2 Gg.cells ?_
 refine N8 z 216 2 Gg.cells ?_
 refine DI (fun m a w'=>∃ (n2:Nat) (i:Nat) (aS:Option Addr) (cS:Nat) (aD:Option Addr) (cD:Nat),m=c.Ac.xs.length - i∧z+1≤n2∧(i≤c.Ac.xs.length)∧St 50 [(1,i6 ch),(4,.slice aS ((EL c ch true i).length) cS),(Jp c ch i aD cD),(Eb c),(DZ c),(13,Aa i)] [] ⟨w,n2,[(Ak w),(ED z c),(G7 z c ch i aS cS),(EX z c ch i aD cD)]⟩ a w') (c.Ac.xs.length - 0) ?_ ?_
 ·intro a w' hs;exact⟨(z+1),0,none,0,none,0,rfl,Nat.le_refl _,Nat.zero_le _,hs⟩
 rintro m a w' ⟨n2,i,aS,cS,aD,cD,rfl,hn1,hki,hs⟩
 refine(?_:G Tryz.prog 50 [(1,i6 ch),(4,.slice aS ((EL c ch true i).length) cS),(Jp c ch i aD cD),(Eb c),(DZ c),(13,Aa i)] [] ⟨w,n2,[(Ak w),(ED z c),(G7 z c ch i aS cS),(EX z c ch i aD cD)]⟩ _ _ _) a w' hs
 clear hs a w'
 have hq3:=VS (k:=ch) (b:=true) hp i (by omega)
 have hq4:=VS (k:=ch) (b:=false) hp i (by omega)
 refine Dl ?_
 by_cases h3:(i:Int)<(c.Ac.xs.length:Int)
 ·refine A8 10 0 [1] [[oT]] [BT ((i:Int)<(c.Ac.xs.length:Int))] [(1,i6 ch),(4,.slice aS ((EL c ch true i).length) cS),(Jp c ch i aD cD),(Eb c),(DZ c),(13,Aa i),(14,.bool true)] rfl ⟨bt,Ae⟩ ?_
  obtain⟨b4,o5,ha6,hF8,hc7⟩:=(hc.Ac).1.all (show 0<c.Ac.xs.length by omega)
  replace ha6:c.Ac.a=some ⟨b4,o5,none⟩:=ha6
  refine J4 [(1,i6 ch),(4,.slice aS ((EL c ch true i).length) cS),(Jp c ch i aD cD),(EH c b4 o5),(DZ c),(13,Aa i),(14,.bool true)] (by(try dsimp only[ED,EX,G7,EH,Eb,DZ,Jp]);simp only[ha6]) ?_
  have hc9:=hc7 i (show i<c.Ac.xs.length by omega)
  have he10:=(hc.Ac).2 i (show i<c.Ac.xs.length by omega)
  obtain⟨y11,hy11⟩:∃ y_,y_=gd c.Ac.xs i:=⟨_,rfl⟩
  rw[←hy11]at he10 hc9
  have h8y11:=hp i (by omega);rw[←hy11]at h8y11
  refine q_c 8 0 [] [[o0,(oi i),(ol 0 (Ap.arr y11)),o0,o0,(an 8 4)],[o0,(a1 4),o0,o0]] [Ea i,i<c.Ac.xs.length,Ec,Hu w b4 (o5+i*8) (Ap.arr y11),Qb n2,Qb n2,Qb n2,Qb n2,Qb n2,Qb n2,Qb n2,Qb n2,Qb n2] [(1,i6 ch),(4,.slice aS ((EL c ch true i).length) cS),(Jp c ch i aD cD),(6,Aa i),(EH c b4 o5),(DZ c),(13,Aa i),(EC y11),(GL y11),(21,i6 0)] ⟨w,n2+1,[(Ak w),(ED z c),(G7 z c ch i aS cS),(EX z c ch i aD cD),(FK n2 y11)]⟩ rfl ⟨rfl,(by omega),rfl,EE hc9,rfl,rfl,rfl,rfl,rfl,rfl,rfl,rfl,rfl,Ae⟩ ?_
  refine DI (fun m a w'=>∃ (n13:Nat) (j:Nat) (aS2:Option Addr) (cS2:Nat) (aD2:Option Addr) (cD2:Nat),m=y11.Aq.xs.length - j∧n2+1≤n13∧(j≤y11.Aq.xs.length)∧St 50 [(1,i6 ch),(EW y11 c ch i j aS2 cS2),(Fa y11 c aD2 ch i j cD2),(6,Aa i),(EH c b4 o5),(DZ c),(13,Aa i),(EC y11),(GL y11),(21,Aa j)] [] ⟨w,n13,[(Ak w),(ED z c),(EY y11 z c ch i j aS2 cS2),(EU y11 z c aD2 ch i j cD2),(FK n2 y11)]⟩ a w') (y11.Aq.xs.length - 0) ?_ ?_
  ·intro a w' hs;exact⟨(n2+1),0,aS,cS,aD,cD,rfl,Nat.le_refl _,Nat.zero_le _,by(try dsimp only[FK,ED,EU,EY,EX,G7,Fa,EW,EH,Eb,EC,DZ,GL,Jp]at hs ⊢);rw[show Et i y11 ch true 0=[]from rfl,show Et i y11 ch false 0=[]from rfl,List.append_nil,List.append_nil];exact hs⟩
  rintro m a w' ⟨n13,j,aS2,cS2,aD2,cD2,rfl,hn12,hkj,hs⟩
  refine(?_:G Tryz.prog 50 [(1,i6 ch),(EW y11 c ch i j aS2 cS2),(Fa y11 c aD2 ch i j cD2),(6,Aa i),(EH c b4 o5),(DZ c),(13,Aa i),(EC y11),(GL y11),(21,Aa j)] [] ⟨w,n13,[(Ak w),(ED z c),(EY y11 z c ch i j aS2 cS2),(EU y11 z c aD2 ch i j cD2),(FK n2 y11)]⟩ _ _ _) a w' hs
  clear hs a w'
  have hq1:(Et i y11 ch true j).length≤j:=TY
  have hq2:(Et i y11 ch false j).length≤j:=TY
  refine Dl ?_
  by_cases h14:(j:Int)<(y11.Aq.xs.length:Int)
  ·refine A8 10 0 [1] [[oT]] [BT ((j:Int)<(y11.Aq.xs.length:Int))] [(1,i6 ch),(EW y11 c ch i j aS2 cS2),(Fa y11 c aD2 ch i j cD2),(6,Aa i),(EH c b4 o5),(DZ c),(13,Aa i),(EC y11),(GL y11),(21,Aa j),(22,.bool true)] rfl ⟨bt,Ae⟩ ?_
   obtain⟨b15,o16,ha17,hF19,hc18⟩:=(he10.Aq).1.all (show 0<y11.Aq.xs.length by omega)
   replace ha17:y11.Aq.a=some ⟨b15,o16,none⟩:=ha17
   refine J4 [(1,i6 ch),(EW y11 c ch i j aS2 cS2),(Fa y11 c aD2 ch i j cD2),(6,Aa i),(EH c b4 o5),(DZ c),(13,Aa i),(FT y11 b15 o16),(GL y11),(21,Aa j),(22,.bool true)] (by(try dsimp only[FK,ED,EU,EY,EX,G7,Fa,EW,EH,FT,Eb,EC,DZ,GL,Jp]);simp only[ha17]) ?_
   have hc20:=hc18 j (show j<y11.Aq.xs.length by omega)
   have he21:=(he10.Aq).2 j (show j<y11.Aq.xs.length by omega)
   obtain⟨y22,hy22⟩:∃ y_,y_=gd y11.Aq.xs j:=⟨_,rfl⟩
   rw[←hy22]at he21 hc20
   refine q_c 5 0 [] [[o0,(oi j),(ol 0 (BR.arr y22)),o0,o0,(an 2 5)]] [Ea j,j<y11.Aq.xs.length,Ec,Hu w b15 (o16+j*2) (BR.arr y22),Qb n13,Qb n13] [(1,i6 ch),(EW y11 c ch i j aS2 cS2),(Fa y11 c aD2 ch i j cD2),(6,Aa i),(EH c b4 o5),(DZ c),(13,Aa i),(FT y11 b15 o16),(GL y11),(21,Aa j),(9,pt n13),(8,Aa j)] ⟨w,n13+1,[(Ak w),(ED z c),(EY y11 z c ch i j aS2 cS2),(EU y11 z c aD2 ch i j cD2),(FK n2 y11),(bk n13 (BR.arr y22) 67)]⟩ rfl ⟨rfl,(by omega),rfl,EE hc20,rfl,rfl,Ae⟩ ?_
   by_cases h23:(y22.Channel:Int)=ch
   ·refine A8 8 0 [0] [[o0,(a1 5),o0,oF,o0],[o0,(a1 5),o0]] [Qb n13,NF y22.Channel ch,Qb n13] [(1,i6 ch),(EW y11 c ch i j aS2 cS2),(Fa y11 c aD2 ch i j cD2),(6,Aa i),(EH c b4 o5),(DZ c),(13,Aa i),(FT y11 b15 o16),(GL y11),(21,Aa j),(8,Aa j),(37,.bool y22.Source)] rfl ⟨rfl,nf,rfl,Ae⟩ ?_
    by_cases h24:y22.Source=true
    ·refine q_c 2 5 [3] [[o0,o0,o0,o0,o0]] [Value.bool y22.Source=Value.bool true] [(1,i6 ch),(Fa y11 c aD2 ch i j cD2),(6,Aa i),(EH c b4 o5),(DZ c),(13,Aa i),(FT y11 b15 o16),(GL y11),(21,Aa j),(40,.slice aS2 ((EL c ch true i++Et i y11 ch true j).length) cS2),(44,.slice (some ⟨n13+1,0,none⟩) 1 1)] ⟨w,n13+2,[(Ak w),(ED z c),(EY y11 z c ch i j aS2 cS2),(EU y11 z c aD2 ch i j cD2),(FK n2 y11),(bk n13 (BR.arr y22) 67),(bk (n13+1) #[(Aa i),Aa j] 216)]⟩ rfl ⟨(congrArg Value.bool h24),Ae⟩ ?_
     refine QG z 2 6 (EL c ch true i++Et i y11 ch true j) [(⟨(i:Int),(j:Int)⟩:Gg)] Gg.cells 216 2 16 (.slice aS2 ((EL c ch true i++Et i y11 ch true j).length) cS2) (n13+1) 1 1 #[(Aa i),Aa j] 216 (0,0) true (some 45) (by simp only[List.length_cons,List.length_nil,List.length_append];omega) (show z≤n13+2 by omega) (fun ax25 cp26 n27 (hn28:n13+2≤n27) => ?_)
     refine Bv 6 0 [] [[o0],[(ov (i6 ((j+1:Nat):Int))),o0]] [Wr ((j:Int)+1) (((j+1:Nat):Int))] [(1,i6 ch),(Fa y11 c aD2 ch i j cD2),(6,Aa i),(EH c b4 o5),(DZ c),(13,Aa i),(FT y11 b15 o16),(GL y11),(KA j),(4,.slice ax25 ((EL c ch true i++Et i y11 ch true j++[(⟨(i:Int),(j:Int)⟩:Gg)]).length) cp26)] rfl ⟨Dk,Ae⟩ ?_
     refine C9 [0,1,2,3,4] [(Ak w),(ED z c),(BB z 216 2 Gg.cells (.slice ax25 ((EL c ch true i++Et i y11 ch true j++[(⟨(i:Int),(j:Int)⟩:Gg)]).length) cp26) (EL c ch true i++Et i y11 ch true j++[(⟨(i:Int),(j:Int)⟩:Gg)])),(EU y11 z c aD2 ch i j cD2),(FK n2 y11)] rfl rfl ?_
     have hTtrue:=Wp (p:=i) (x:=y11) (k:=ch) (b:=true) (j:=j) (by rw[←hy22];exact src_t (by omega) (by revert h24;cases y22.Source <;> simp))
     have hTfalse:=Ri (p:=i) (x:=y11) (k:=ch) (b:=false) (j:=j) (by rw[←hy22];exact src_f2 (by revert h24;cases y22.Source <;> simp))
     refine Gw [1,4,5,6,11,12,13,19,20,21] [(1,i6 ch),(4,.slice ax25 ((EL c ch true i++Et i y11 ch true j++[(⟨(i:Int),(j:Int)⟩:Gg)]).length) cp26),(Fa y11 c aD2 ch i j cD2),(6,Aa i),(EH c b4 o5),(DZ c),(13,Aa i),(EC y11),(GL y11),(KA j)] (by(try dsimp only[FK,ED,EU,EY,EX,G7,Fa,EW,EH,FT,Eb,EC,DZ,GL,Jp,KA]);simp only[ha17];rfl) ?_
     refine CS (fun a w' hs=>⟨y11.Aq.xs.length - (j+1),by omega,n27,(j+1),ax25,cp26,aD2,cD2,rfl,by omega,by omega,by(try dsimp only[FK,ED,EU,EY,EX,G7,Fa,EW,EH,FT,Eb,EC,DZ,GL,Jp,KA]at hs ⊢);rw[hTtrue,←List.append_assoc,hTfalse];exact hs⟩)
    refine q_c 2 5 [2] [[o0,o0,o0,o0,o0]] [Value.bool y22.Source=Value.bool false] [(1,i6 ch),(EW y11 c ch i j aS2 cS2),(6,Aa i),(EH c b4 o5),(DZ c),(13,Aa i),(FT y11 b15 o16),(GL y11),(21,Aa j),(26,.slice aD2 ((EL c ch false i++Et i y11 ch false j).length) cD2),(30,.slice (some ⟨n13+1,0,none⟩) 1 1)] ⟨w,n13+2,[(Ak w),(ED z c),(EY y11 z c ch i j aS2 cS2),(EU y11 z c aD2 ch i j cD2),(FK n2 y11),(bk n13 (BR.arr y22) 67),(bk (n13+1) #[(Aa i),Aa j] 216)]⟩ rfl ⟨(congrArg Value.bool (Bool.eq_false_iff.2 h24)),Ae⟩ ?_
    refine QG z 3 6 (EL c ch false i++Et i y11 ch false j) [(⟨(i:Int),(j:Int)⟩:Gg)] Gg.cells 216 2 16 (.slice aD2 ((EL c ch false i++Et i y11 ch false j).length) cD2) (n13+1) 1 1 #[(Aa i),Aa j] 216 (0,0) true (some 31) (by simp only[List.length_cons,List.length_nil,List.length_append];omega) (show z≤n13+2 by omega) (fun ax29 cp30 n31 (hn32:n13+2≤n31) => ?_)
    refine Bv 6 0 [] [[o0],[(ov (i6 ((j+1:Nat):Int))),o0]] [Wr ((j:Int)+1) (((j+1:Nat):Int))] [(1,i6 ch),(EW y11 c ch i j aS2 cS2),(6,Aa i),(EH c b4 o5),(DZ c),(13,Aa i),(FT y11 b15 o16),(GL y11),(KA j),(5,.slice ax29 ((EL c ch false i++Et i y11 ch false j++[(⟨(i:Int),(j:Int)⟩:Gg)]).length) cp30)] rfl ⟨Dk,Ae⟩ ?_
    refine C9 [0,1,2,3,4] [(Ak w),(ED z c),(EY y11 z c ch i j aS2 cS2),(BB z 216 2 Gg.cells (.slice ax29 ((EL c ch false i++Et i y11 ch false j++[(⟨(i:Int),(j:Int)⟩:Gg)]).length) cp30) (EL c ch false i++Et i y11 ch false j++[(⟨(i:Int),(j:Int)⟩:Gg)])),(FK n2 y11)] rfl rfl ?_
    have hTtrue:=Ri (p:=i) (x:=y11) (k:=ch) (b:=true) (j:=j) (by rw[←hy22];exact src_f2 (by revert h24;cases y22.Source <;> simp))
    have hTfalse:=Wp (p:=i) (x:=y11) (k:=ch) (b:=false) (j:=j) (by rw[←hy22];exact src_t (by omega) (by revert h24;cases y22.Source <;> simp))
    refine Gw [1,4,5,6,11,12,13,19,20,21] [(1,i6 ch),(EW y11 c ch i j aS2 cS2),(5,.slice ax29 ((EL c ch false i++Et i y11 ch false j++[(⟨(i:Int),(j:Int)⟩:Gg)]).length) cp30),(6,Aa i),(EH c b4 o5),(DZ c),(13,Aa i),(EC y11),(GL y11),(KA j)] (by(try dsimp only[FK,ED,EU,EY,EX,G7,Fa,EW,EH,FT,Eb,EC,DZ,GL,Jp,KA]);simp only[ha17];rfl) ?_
    refine CS (fun a w' hs=>⟨y11.Aq.xs.length - (j+1),by omega,n31,(j+1),aS2,cS2,ax29,cp30,rfl,by omega,by omega,by(try dsimp only[FK,ED,EU,EY,EX,G7,Fa,EW,EH,FT,Eb,EC,DZ,GL,Jp,KA]at hs ⊢);rw[hTtrue,hTfalse,←List.append_assoc];exact hs⟩)
   refine A8 10 0 [1] [[o0,(a1 5),o0,oT,o0],[(ov (i6 ((j+1:Nat):Int))),o0]] [Qb n13,NT y22.Channel ch,Wr ((j:Int)+1) (((j+1:Nat):Int))] [(1,i6 ch),(EW y11 c ch i j aS2 cS2),(Fa y11 c aD2 ch i j cD2),(6,Aa i),(EH c b4 o5),(DZ c),(13,Aa i),(FT y11 b15 o16),(GL y11),(KA j)] rfl ⟨rfl,nt,Dk,Ae⟩ ?_
   refine C9 [0,1,2,3,4] [(Ak w),(ED z c),(EY y11 z c ch i j aS2 cS2),(EU y11 z c aD2 ch i j cD2),(FK n2 y11)] rfl rfl ?_
   have hTtrue:=Ri (p:=i) (x:=y11) (k:=ch) (b:=true) (j:=j) (by rw[←hy22];exact src_f1 (by omega))
   have hTfalse:=Ri (p:=i) (x:=y11) (k:=ch) (b:=false) (j:=j) (by rw[←hy22];exact src_f1 (by omega))
   refine Gw [1,4,5,6,11,12,13,19,20,21] [(1,i6 ch),(EW y11 c ch i j aS2 cS2),(Fa y11 c aD2 ch i j cD2),(6,Aa i),(EH c b4 o5),(DZ c),(13,Aa i),(EC y11),(GL y11),(KA j)] (by(try dsimp only[FK,ED,EU,EY,EX,G7,Fa,EW,EH,FT,Eb,EC,DZ,GL,Jp,KA]);simp only[ha17];rfl) ?_
   refine CS (fun a w' hs=>⟨y11.Aq.xs.length - (j+1),by omega,(n13+1),(j+1),aS2,cS2,aD2,cD2,rfl,by omega,by omega,by(try dsimp only[FK,ED,EU,EY,EX,G7,Fa,EW,EH,FT,Eb,EC,DZ,GL,Jp,KA]at hs ⊢);rw[hTtrue,hTfalse];exact hs⟩)
  refine A8 13 0 [0] [[oF],[(ov (i6 ((i+1:Nat):Int))),o0]] [BF ((j:Int)<(y11.Aq.xs.length:Int)),Wr ((i:Int)+1) (((i+1:Nat):Int))] [(1,i6 ch),(EW y11 c ch i j aS2 cS2),(Fa y11 c aD2 ch i j cD2),(EH c b4 o5),(DZ c),(13,i6 ((i+1:Nat):Int))] rfl ⟨bf,Dk,Ae⟩ ?_
  refine C9 [0,1,2,3] [(Ak w),(ED z c),(EY y11 z c ch i j aS2 cS2),(EU y11 z c aD2 ch i j cD2)] rfl rfl ?_
  refine Gw [1,4,5,11,12,13] [(1,i6 ch),(EW y11 c ch i j aS2 cS2),(Fa y11 c aD2 ch i j cD2),(Eb c),(DZ c),(13,i6 ((i+1:Nat):Int))] (by(try dsimp only[FK,ED,EU,EY,EX,G7,Fa,EW,EH,FT,Eb,EC,DZ,GL,Jp,KA]);simp only[ha6];rfl) ?_
  refine CS (fun a w' hs=>⟨c.Ac.xs.length - (i+1),by omega,n13,(i+1),aS2,cS2,aD2,cD2,rfl,by omega,by omega,by(try dsimp only[FK,ED,EU,EY,EX,G7,Fa,EW,EH,FT,Eb,EC,DZ,GL,Jp,KA]at hs ⊢);rw[Rj,Rj,←hy11,show y11.Aq.xs.length=j by omega];exact hs⟩)
 refine A8 15 0 [0] [[oF],[o0,o0,o0,o0]] [BF ((i:Int)<(c.Ac.xs.length:Int))] [(4,.slice aS ((EL c ch true i).length) cS),(Jp c ch i aD cD)] rfl ⟨bf,Ae⟩ ?_
 refine AP [] [] (.tuple #[.slice aS ((EL c ch true i).length) cS,.slice aD ((EL c ch false i).length) cD]) Ae ?_
 intro w33 hw33
 have e0:i=c.Ac.xs.length:=by omega
 subst e0
 refine⟨_,_,_,_,rfl,hz ▸ Pn (fun _=>rfl) (hw33.at (i:=2) rfl) (by unfold Dc;omega),hz ▸ Pn (fun _=>rfl) (hw33.at (i:=3) rfl) (by unfold Dc;omega),Au hw33⟩
section
variable (z:Nat)(c:Ai)(b11 o12:Nat)(b27 o28:Nat)
abbrev Lc:=bk z (Ai.arr c) 27
abbrev TE:Dv:=(30,.slice (some ⟨b11,o12,none⟩) c.Ac.xs.length c.Ac.cap)
abbrev Oj:Dv:=(42,.slice (some ⟨b27,o28,none⟩) c.Aj.xs.length c.Aj.cap)
abbrev OX:Dv:=(30,.slice c.Ac.a c.Ac.xs.length c.Ac.cap)
abbrev QD:Dv:=(42,.slice c.Aj.a c.Aj.xs.length c.Aj.cap)
abbrev MC:=(31,Aa c.Ac.xs.length)
abbrev Kq:=(43,Aa c.Aj.xs.length)
end
theorem Zaw(w:World)(c:Ai)(hc:Ai.ok Any w c):Calls Tryz.prog 145 #[.agg (Ai.arr c)] w fun e w'=>e = .returned (.bool (FQ c))∧BH (fun _=>False) w w':=by
 obtain⟨z,hz⟩:∃ z,z=w.heap.size:=⟨_,rfl⟩
 refine BA (args:=[.agg (Ai.arr c)]) 82 ⟨w,z,[(Ak w)]⟩ Tryz.func145 rfl (by kernel_rfl) (by kernel_rfl) (En hz) ?_
 have hlC:=hc.Aj.1.len
 refine Cc [0] [(0,.agg (Ai.arr c))] ?_
 refine q_c 6 0 [] [[o0,o0]] [] [(1,pt z)] ⟨w,z+1,[(Ak w),(Lc z c)]⟩ rfl Ae ?_
 by_cases h1:(c.Kernel:Int)<0
 ·refine A8 9 0 [1] [[o0,(a1 1),oT,o0,o0,o0,o0,o0,o0],[o0]] [Qb z,BT ((c.Kernel:Int)<0)] [(2,.bool false)] rfl ⟨rfl,bt,Ae⟩ ?_
  refine AP [] [] (.bool false) Ae ?_
  intro w2 hw2
  refine⟨congrArg (fun b=>Ending.returned (Value.bool b)) (Eq.symm (?_:FQ c=false)),Au hw2⟩
  exact VC (by omega)
 by_cases h3:(c.Kernel:Int)<1024
 ·by_cases h4:(8:Int)<(c.Ac.xs.length:Int)
  ·refine A8 9 0 [1] [[o0,(a1 1),oF,o0,o0,(a1 1),oF,o0,o0,o0,(a1 1),o0,oT,o0,o0,o0],[o0]] [Qb z,BF ((c.Kernel:Int)<0),Qb z,BF ((c.Kernel:Int)≥1024),Qb z,BT ((c.Ac.xs.length:Int) > 8)] [(2,.bool false)] rfl ⟨rfl,bf,rfl,bf,rfl,bt,Ae⟩ ?_
   refine AP [] [] (.bool false) Ae ?_
   intro w5 hw5
   refine⟨congrArg (fun b=>Ending.returned (Value.bool b)) (Eq.symm (?_:FQ c=false)),Au hw5⟩
   exact VC (by omega)
  by_cases h6:(16:Int)<(c.Aj.xs.length:Int)
  ·refine A8 9 0 [1] [[o0,(a1 1),oF,o0,o0,(a1 1),oF,o0,o0,o0,(a1 1),o0,oF,o0,o0,o0,(a1 1),o0,oT,o0],[o0]] [Qb z,BF ((c.Kernel:Int)<0),Qb z,BF ((c.Kernel:Int)≥1024),Qb z,BF ((c.Ac.xs.length:Int) > 8),Qb z,BT ((c.Aj.xs.length:Int) > 16)] [(2,.bool false)] rfl ⟨rfl,bf,rfl,bf,rfl,bf,rfl,bt,Ae⟩ ?_
   refine AP [] [] (.bool false) Ae ?_
   intro w7 hw7
   refine⟨congrArg (fun b=>Ending.returned (Value.bool b)) (Eq.symm (?_:FQ c=false)),Au hw7⟩
   exact VC (by omega)
  refine A8 12 0 [0] [[o0,(a1 1),oF,o0,o0,(a1 1),oF,o0,o0,o0,(a1 1),o0,oF,o0,o0,o0,(a1 1),o0,oF,o0],[o0,(a1 1),o0,o0]] [Qb z,BF ((c.Kernel:Int)<0),Qb z,BF ((c.Kernel:Int)≥1024),Qb z,BF ((c.Ac.xs.length:Int) > 8),Qb z,BF ((c.Aj.xs.length:Int) > 16),Qb z] [(1,pt z),(OX c),(MC c),(32,i6 0)] rfl ⟨rfl,bf,rfl,bf,rfl,bf,rfl,bf,rfl,Ae⟩ ?_
  refine DI (fun m a w'=>∃ (n9:Nat) (k:Nat),m=c.Ac.xs.length - k∧z+1≤n9∧(k≤c.Ac.xs.length)∧(∀ i,i<k→FN c.Aj.xs.length (gd c.Ac.xs i)=true)∧St 82 [(1,pt z),(OX c),(MC c),(32,Aa k)] [] ⟨w,n9,[(Ak w),(Lc z c)]⟩ a w') (c.Ac.xs.length - 0) ?_ ?_
  ·intro a w' hs;exact⟨(z+1),0,rfl,Nat.le_refl _,Nat.zero_le _,fun i hi=>absurd hi (Nat.not_lt_zero i),hs⟩
  rintro m a w' ⟨n9,k,rfl,hn8,hkk,hp,hs⟩
  refine(?_:G Tryz.prog 82 [(1,pt z),(OX c),(MC c),(32,Aa k)] [] ⟨w,n9,[(Ak w),(Lc z c)]⟩ _ _ _) a w' hs
  clear hs a w'
  refine Dl ?_
  by_cases h10:(k:Int)<(c.Ac.xs.length:Int)
  ·refine A8 10 0 [1] [[oT]] [BT ((k:Int)<(c.Ac.xs.length:Int))] [(1,pt z),(OX c),(MC c),(32,Aa k),(33,.bool true)] rfl ⟨bt,Ae⟩ ?_
   obtain⟨b11,o12,ha13,hF15,hc14⟩:=(hc.Ac).1.all (show 0<c.Ac.xs.length by omega)
   replace ha13:c.Ac.a=some ⟨b11,o12,none⟩:=ha13
   refine J4 [(1,pt z),(TE c b11 o12),(MC c),(32,Aa k),(33,.bool true)] (by(try dsimp only[Lc,TE,OX,MC]);simp only[ha13]) ?_
   have hc16:=hc14 k (show k<c.Ac.xs.length by omega)
   have he17:=(hc.Ac).2 k (show k<c.Ac.xs.length by omega)
   obtain⟨y18,hy18⟩:∃ y_,y_=gd c.Ac.xs k:=⟨_,rfl⟩
   rw[←hy18]at he17 hc16
   refine q_c 5 2 [] [[(oi k),(ol 0 (Ap.arr y18)),o0,(an 8 2)],[(an 7 1),(an 8 2)]] [Ea k,k<c.Ac.xs.length,Ec,Hu w b11 (o12+k*8) (Ap.arr y18),Qb n9,Qb n9,Qb n9,Qb n9,Qb n9,Qb n9,Qb n9,Qb n9,Qb z,Qb z,Qb z,Qb z,Qb z,Qb z,Qb z,Qb n9,Qb n9,Qb n9,Qb n9,Qb n9,Qb n9,Qb n9,Qb n9] [(1,pt z),(TE c b11 o12),(MC c),(32,Aa k),(36,.agg (Ai.arr c)),(37,.agg (Ap.arr y18))] ⟨w,n9+1,[(Ak w),(Lc z c),(bk n9 (Ap.arr y18) 57)]⟩ rfl ⟨rfl,(by omega),rfl,EE hc16,rfl,rfl,rfl,rfl,rfl,rfl,rfl,rfl,rfl,rfl,rfl,rfl,rfl,rfl,rfl,rfl,rfl,rfl,rfl,rfl,rfl,rfl,rfl,Ae⟩ ?_
   refine BV 156 #[.agg (Ai.arr c),.agg (Ap.arr y18)] (some 38) (.bool (FN c.Aj.xs.length y18)) (fun w19 hw19=>LM w19 c y18 (hc.ext (hw19.ext rfl) (fun _ h=>h)) (he17.ext (hw19.ext rfl) (fun _ h=>h))) (fun n20 (hn21:n9+1≤n20) => ?_)
   refine CZ [1,30,31,32,38] [(1,pt z),(TE c b11 o12),(MC c),(32,Aa k),(38,.bool (FN c.Aj.xs.length y18))] ?_
   by_cases h22:(FN c.Aj.xs.length y18)=true
   ·refine Bv 8 0 [0] [[(ov (.bool false))],[(ov (i6 ((k+1:Nat):Int))),o0]] [Value.bool (!(FN c.Aj.xs.length y18))=Value.bool false,Wr ((k:Int)+1) (((k+1:Nat):Int))] [(1,pt z),(TE c b11 o12),(MC c),(32,i6 ((k+1:Nat):Int))] rfl ⟨by simp[h22],Dk,Ae⟩ ?_
    refine C9 [0,1] [(Ak w),(Lc z c)] rfl rfl ?_
    refine Gw [1,30,31,32] [(1,pt z),(OX c),(MC c),(32,i6 ((k+1:Nat):Int))] (by(try dsimp only[Lc,TE,OX,MC]);simp only[ha13];rfl) ?_
    refine CS (fun a w' hs=>⟨c.Ac.xs.length - (k+1),by omega,n20,(k+1),rfl,by omega,by omega,upto hp (by rw[←hy18];exact h22),hs⟩)
   refine Bv 8 0 [1] [[(ov (.bool true))],[o0]] [Value.bool (!(FN c.Aj.xs.length y18))=Value.bool true] [(2,.bool false)] rfl ⟨by simp[h22],Ae⟩ ?_
   refine AP [] [] (.bool false) Ae ?_
   intro w23 hw23
   refine⟨congrArg (fun b=>Ending.returned (Value.bool b)) (Eq.symm (?_:FQ c=false)),Au hw23⟩
   exact conf_no2 (k:=k) (by omega) (by rw[←hy18];exact Bool.eq_false_iff.2 h22)
  refine A8 16 0 [0] [[oF],[o0,(a1 1),o0,o0]] [BF ((k:Int)<(c.Ac.xs.length:Int)),Qb z] [(1,pt z),(QD c),(Kq c),(44,i6 0)] rfl ⟨bf,rfl,Ae⟩ ?_
  refine DI (fun m a w'=>∃ (n25:Nat) (k2:Nat),m=c.Aj.xs.length - k2∧n9≤n25∧(k2≤c.Aj.xs.length)∧(∀ i,i<k2→LV c i=true)∧St 82 [(1,pt z),(QD c),(Kq c),(44,Aa k2)] [] ⟨w,n25,[(Ak w),(Lc z c)]⟩ a w') (c.Aj.xs.length - 0) ?_ ?_
  ·intro a w' hs;exact⟨n9,0,rfl,Nat.le_refl _,Nat.zero_le _,fun i hi=>absurd hi (Nat.not_lt_zero i),hs⟩
  rintro m a w' ⟨n25,k2,rfl,hn24,hkk2,hch,hs⟩
  refine(?_:G Tryz.prog 82 [(1,pt z),(QD c),(Kq c),(44,Aa k2)] [] ⟨w,n25,[(Ak w),(Lc z c)]⟩ _ _ _) a w' hs
  clear hs a w'
  refine Dl ?_
  by_cases h26:(k2:Int)<(c.Aj.xs.length:Int)
  ·refine A8 10 0 [1] [[oT]] [BT ((k2:Int)<(c.Aj.xs.length:Int))] [(1,pt z),(QD c),(Kq c),(44,Aa k2),(45,.bool true)] rfl ⟨bt,Ae⟩ ?_
   obtain⟨b27,o28,ha29,hF31,hc30⟩:=(hc.Aj).1.all (show 0<c.Aj.xs.length by omega)
   replace ha29:c.Aj.a=some ⟨b27,o28,none⟩:=ha29
   refine J4 [(1,pt z),(Oj c b27 o28),(Kq c),(44,Aa k2),(45,.bool true)] (by(try dsimp only[Lc,TE,Oj,OX,QD,MC,Kq]);simp only[ha29]) ?_
   have hc32:=hc30 k2 (show k2<c.Aj.xs.length by omega)
   have he33:=(hc.Aj).2 k2 (show k2<c.Aj.xs.length by omega)
   obtain⟨y34,hy34⟩:∃ y_,y_=gd c.Aj.xs k2:=⟨_,rfl⟩
   rw[←hy34]at he33 hc32
   have hsb:=Uj y34;have hsp:=JR y34;have hec1:=Sz c k2 true;have hec2:=Sz c k2 false
   refine q_c 5 2 [] [[o0,(oi k2),(ol 0 (AQ.arr y34)),o0,o0,(an 3 2)],[(an 7 1),o0]] [Ea k2,k2<c.Aj.xs.length,Ec,Hu w b27 (o28+k2*3) (AQ.arr y34),Qb n25,Qb n25,Qb n25,Qb z,Qb z,Qb z,Qb z,Qb z,Qb z,Qb z] [(1,pt z),(Oj c b27 o28),(Kq c),(44,Aa k2),(6,pt n25),(50,.agg (Ai.arr c)),(51,Aa k2)] ⟨w,n25+1,[(Ak w),(Lc z c),(bk n25 (AQ.arr y34) 49)]⟩ rfl ⟨rfl,(by omega),rfl,EE hc32,rfl,rfl,rfl,rfl,rfl,rfl,rfl,rfl,rfl,rfl,Ae⟩ ?_
   refine l_call [] [] 147 #[.agg (Ai.arr c),Aa k2] (some 52) Ae ?_
   intro w35 hw35
   refine(Qo w35 c (k2:Int) (hc.ext (hw35.ext rfl) (fun _ h=>h)) (by omega) (fun i hi=>Sv (hp i (by omega)))).mono ?_
   rintro e w36 ⟨ax37,cp38,ax39,cp40,rfl,hSw36,hDw36,hkw36⟩
   have hnw36:n25+1≤w36.heap.size:=AY hw35 hkw36
   rw[hw35.size]at hSw36 hDw36
   refine⟨_,_,rfl,hw35.KZ hkw36, ?_⟩
   refine Bv 5 1 [] [[o0,o0,o0,o0,o0],[(an 3 2)]] [Qb n25,Qb n25,Qb n25] [(1,pt z),(Oj c b27 o28),(Kq c),(44,Aa k2),(6,pt n25),(7,.slice ax37 ((Dc c (k2:Int) true).length) cp38),(8,.slice ax39 ((Dc c (k2:Int) false).length) cp40),(55,.agg (AQ.arr y34))] rfl ⟨rfl,rfl,rfl,Ae⟩ ?_
   refine BV 148 #[.agg (AQ.arr y34)] (some 56) (i6 (CJ y34)) (fun w41 hw41=>OY w41 y34 (he33.ext (hw41.ext rfl) (fun _ h=>h))) (fun n42 (hn43:w36.heap.size≤n42) => ?_)
   refine CZ [1,42,43,44,6,7,8,56] [(1,pt z),(Oj c b27 o28),(Kq c),(44,Aa k2),(6,pt n25),(7,.slice ax37 ((Dc c (k2:Int) true).length) cp38),(8,.slice ax39 ((Dc c (k2:Int) false).length) cp40),(56,i6 (CJ y34))] ?_
   by_cases h44:(CJ y34:Int)=0
   ·refine Bv 8 0 [1] [[oT,o0,o0],[o0]] [ET (CJ y34) 0] [(2,.bool false)] rfl ⟨et,Ae⟩ ?_
    refine AP [] [] (.bool false) Ae ?_
    intro w45 hw45
    refine⟨congrArg (fun b=>Ending.returned (Value.bool b)) (Eq.symm (?_:FQ c=false)),Au hw45⟩
    exact Ol (k:=k2) (by omega) (Qi (by rw[←hy34];first | omega | (left;exact(JR _).1 (by omega))))
   by_cases h46:(y34.Kind:Int)=1
   ·by_cases h47:(y34.Dj:Int)=0
    ·refine Bv 6 0 [0] [[oF,o0,o0,(a1 2),oT,o0,o0,(a1 2),oF,o0,o0]] [EF (CJ y34) 0,Qb n25,ET y34.Kind 1,Qb n25,NF y34.Dj 0] [(1,pt z),(Oj c b27 o28),(Kq c),(44,Aa k2),(7,.slice ax37 ((Dc c (k2:Int) true).length) cp38),(8,.slice ax39 ((Dc c (k2:Int) false).length) cp40),(67,.bool false)] rfl ⟨ef,rfl,et,rfl,nf,Ae⟩ ?_
     by_cases h48:((((Dc c (k2:Int) true).length:Nat):Int):Int)=1
     ·by_cases h49:((((Dc c (k2:Int) false).length:Nat):Int):Int)<1
      ·refine A8 9 0 [1] [[o0,o0,oF,o0,o0,o0,oT,o0,o0,o0],[o0]] [NF (((Dc c (k2:Int) true).length:Nat):Int) 1,BT (((((Dc c (k2:Int) false).length:Nat):Int):Int)<1)] [(2,.bool false)] rfl ⟨nf,bt,Ae⟩ ?_
       refine AP [] [] (.bool false) Ae ?_
       intro w50 hw50
       refine⟨congrArg (fun b=>Ending.returned (Value.bool b)) (Eq.symm (?_:FQ c=false)),Au hw50⟩
       exact Ol (k:=k2) (by omega) (Qi (by rw[←hy34];first | omega | (left;exact(JR _).1 (by omega))))
      by_cases h51:(4:Int)<(((Dc c (k2:Int) false).length:Nat):Int)
      ·refine A8 9 0 [1] [[o0,o0,oF,o0,o0,o0,oF,o0,o0,o0,o0,oT,o0],[o0]] [NF (((Dc c (k2:Int) true).length:Nat):Int) 1,BF (((((Dc c (k2:Int) false).length:Nat):Int):Int)<1),BT (((((Dc c (k2:Int) false).length:Nat):Int):Int) > 4)] [(2,.bool false)] rfl ⟨nf,bf,bt,Ae⟩ ?_
       refine AP [] [] (.bool false) Ae ?_
       intro w52 hw52
       refine⟨congrArg (fun b=>Ending.returned (Value.bool b)) (Eq.symm (?_:FQ c=false)),Au hw52⟩
       exact Ol (k:=k2) (by omega) (Qi (by rw[←hy34];first | omega | (left;exact(JR _).1 (by omega))))
      refine A8 9 0 [0] [[o0,o0,oF,o0,o0,o0,oF,o0,o0,o0,o0,oF,o0],[(ov (i6 ((k2+1:Nat):Int))),o0]] [NF (((Dc c (k2:Int) true).length:Nat):Int) 1,BF (((((Dc c (k2:Int) false).length:Nat):Int):Int)<1),BF (((((Dc c (k2:Int) false).length:Nat):Int):Int) > 4),Wr ((k2:Int)+1) (((k2+1:Nat):Int))] [(1,pt z),(Oj c b27 o28),(Kq c),(44,i6 ((k2+1:Nat):Int))] rfl ⟨nf,bf,bf,Dk,Ae⟩ ?_
      refine C9 [0,1] [(Ak w),(Lc z c)] rfl rfl ?_
      refine Gw [1,42,43,44] [(1,pt z),(QD c),(Kq c),(44,i6 ((k2+1:Nat):Int))] (by(try dsimp only[Lc,Oj,OX,QD,MC,Kq]);simp only[ha29];rfl) ?_
      refine CS (fun a w' hs=>⟨c.Aj.xs.length - (k2+1),by omega,n42,(k2+1),rfl,by omega,by omega,upto hch (Zbn (by rw[←hy34];intro e;exact absurd (hsp.2 e) (by omega)) (by rw[←hy34];omega) (by omega) (by omega)),hs⟩)
     refine A8 9 0 [1] [[o0,o0,oT,o0,o0,o0,o0],[o0]] [NT (((Dc c (k2:Int) true).length:Nat):Int) 1] [(2,.bool false)] rfl ⟨nt,Ae⟩ ?_
     refine AP [] [] (.bool false) Ae ?_
     intro w53 hw53
     refine⟨congrArg (fun b=>Ending.returned (Value.bool b)) (Eq.symm (?_:FQ c=false)),Au hw53⟩
     exact Ol (k:=k2) (by omega) (Qi (by rw[←hy34];first | omega | (left;exact(JR _).1 (by omega))))
    refine Bv 8 0 [1] [[oF,o0,o0,(a1 2),oT,o0,o0,(a1 2),oT,o0,o0],[o0]] [EF (CJ y34) 0,Qb n25,ET y34.Kind 1,Qb n25,NT y34.Dj 0] [(2,.bool false)] rfl ⟨ef,rfl,et,rfl,nt,Ae⟩ ?_
    refine AP [] [] (.bool false) Ae ?_
    intro w54 hw54
    refine⟨congrArg (fun b=>Ending.returned (Value.bool b)) (Eq.symm (?_:FQ c=false)),Au hw54⟩
    exact Ol (k:=k2) (by omega) (Qi (by rw[←hy34];first | omega | (left;exact(JR _).1 (by omega))))
   refine Bv 6 0 [0] [[oF,o0,o0,(a1 2),oF,o0,o0,o0]] [EF (CJ y34) 0,Qb n25,EF y34.Kind 1] [(1,pt z),(Oj c b27 o28),(Kq c),(44,Aa k2),(7,.slice ax37 ((Dc c (k2:Int) true).length) cp38),(8,.slice ax39 ((Dc c (k2:Int) false).length) cp40),(67,.bool false)] rfl ⟨ef,rfl,ef,Ae⟩ ?_
   by_cases h55:((((Dc c (k2:Int) true).length:Nat):Int):Int)=1
   ·by_cases h56:((((Dc c (k2:Int) false).length:Nat):Int):Int)<1
    ·refine A8 9 0 [1] [[o0,o0,oF,o0,o0,o0,oT,o0,o0,o0],[o0]] [NF (((Dc c (k2:Int) true).length:Nat):Int) 1,BT (((((Dc c (k2:Int) false).length:Nat):Int):Int)<1)] [(2,.bool false)] rfl ⟨nf,bt,Ae⟩ ?_
     refine AP [] [] (.bool false) Ae ?_
     intro w57 hw57
     refine⟨congrArg (fun b=>Ending.returned (Value.bool b)) (Eq.symm (?_:FQ c=false)),Au hw57⟩
     exact Ol (k:=k2) (by omega) (Qi (by rw[←hy34];first | omega | (left;exact(JR _).1 (by omega))))
    by_cases h58:(4:Int)<(((Dc c (k2:Int) false).length:Nat):Int)
    ·refine A8 9 0 [1] [[o0,o0,oF,o0,o0,o0,oF,o0,o0,o0,o0,oT,o0],[o0]] [NF (((Dc c (k2:Int) true).length:Nat):Int) 1,BF (((((Dc c (k2:Int) false).length:Nat):Int):Int)<1),BT (((((Dc c (k2:Int) false).length:Nat):Int):Int) > 4)] [(2,.bool false)] rfl ⟨nf,bf,bt,Ae⟩ ?_
     refine AP [] [] (.bool false) Ae ?_
     intro w59 hw59
     refine⟨congrArg (fun b=>Ending.returned (Value.bool b)) (Eq.symm (?_:FQ c=false)),Au hw59⟩
     exact Ol (k:=k2) (by omega) (Qi (by rw[←hy34];first | omega | (left;exact(JR _).1 (by omega))))
    refine A8 9 0 [0] [[o0,o0,oF,o0,o0,o0,oF,o0,o0,o0,o0,oF,o0],[(ov (i6 ((k2+1:Nat):Int))),o0]] [NF (((Dc c (k2:Int) true).length:Nat):Int) 1,BF (((((Dc c (k2:Int) false).length:Nat):Int):Int)<1),BF (((((Dc c (k2:Int) false).length:Nat):Int):Int) > 4),Wr ((k2:Int)+1) (((k2+1:Nat):Int))] [(1,pt z),(Oj c b27 o28),(Kq c),(44,i6 ((k2+1:Nat):Int))] rfl ⟨nf,bf,bf,Dk,Ae⟩ ?_
    refine C9 [0,1] [(Ak w),(Lc z c)] rfl rfl ?_
    refine Gw [1,42,43,44] [(1,pt z),(QD c),(Kq c),(44,i6 ((k2+1:Nat):Int))] (by(try dsimp only[Lc,Oj,OX,QD,MC,Kq]);simp only[ha29];rfl) ?_
    refine CS (fun a w' hs=>⟨c.Aj.xs.length - (k2+1),by omega,n42,(k2+1),rfl,by omega,by omega,upto hch (Zbn (by rw[←hy34];intro e;exact absurd (hsp.2 e) (by omega)) (by rw[←hy34];omega) (by omega) (by omega)),hs⟩)
   refine A8 9 0 [1] [[o0,o0,oT,o0,o0,o0,o0],[o0]] [NT (((Dc c (k2:Int) true).length:Nat):Int) 1] [(2,.bool false)] rfl ⟨nt,Ae⟩ ?_
   refine AP [] [] (.bool false) Ae ?_
   intro w60 hw60
   refine⟨congrArg (fun b=>Ending.returned (Value.bool b)) (Eq.symm (?_:FQ c=false)),Au hw60⟩
   exact Ol (k:=k2) (by omega) (Qi (by rw[←hy34];first | omega | (left;exact(JR _).1 (by omega))))
  refine A8 15 0 [0] [[oF],[o0]] [BF ((k2:Int)<(c.Aj.xs.length:Int))] [(2,.bool true)] rfl ⟨bf,Ae⟩ ?_
  refine AP [] [] (.bool true) Ae ?_
  intro w61 hw61
  refine⟨congrArg (fun b=>Ending.returned (Value.bool b)) (Eq.symm (?_:FQ c=true)),Au hw61⟩
  exact conf_yes (by omega) (by omega) (by omega) (fun i hi=>hp i (by omega)) (fun i hi=>hch i (by omega))
 refine A8 9 0 [1] [[o0,(a1 1),oF,o0,o0,(a1 1),oT,o0,o0,o0,o0,o0],[o0]] [Qb z,BF ((c.Kernel:Int)<0),Qb z,BT ((c.Kernel:Int)≥1024)] [(2,.bool false)] rfl ⟨rfl,bf,rfl,bt,Ae⟩ ?_
 refine AP [] [] (.bool false) Ae ?_
 intro w62 hw62
 refine⟨congrArg (fun b=>Ending.returned (Value.bool b)) (Eq.symm (?_:FQ c=false)),Au hw62⟩
 exact VC (by omega)
def O1(g:AX)(n:Nat):List Nat:=(List.range n).map (fun(k:Nat)=>((g.CO+(k:Int)) / 16).toNat)
def FM(x:Ap)(i:Nat):List Nat:=(List.range i).flatMap (fun r=>O1 (gd x.Ah.xs r) (gd x.Ah.xs r).BO.toNat)
def J8(l:List Nat):Array Value:=((List.range 16).map (fun t=>Value.bool (l.contains t))).toArray
theorem WT(l:List Nat):(J8 l).size=16:=by simp[J8]
theorem Zy(l:List Nat){t:Nat}(h:t<16):(J8 l)[t]? = some (Value.bool (l.contains t)):=by simp[J8,h]
theorem mark_push(l:List Nat)(t:Nat):J8 (l++[t])=(J8 l).setIfInBounds t (.bool true):=by
 apply Array.ext_getElem?
 intro i
 rw[Array.getElem?_setIfInBounds,WT]
 by_cases hi:i<16
 ·rw[Zy _ hi,Zy _ hi]
  by_cases e:t=i
  ·subst e;simp[hi]
  rw[if_neg e]
  simp[Ne.symm e]
 have h1:∀ l,(J8 l)[i]? = none:=fun l=>Array.getElem?_eq_none (by rw[WT];omega)
 rw[h1,h1]
 by_cases e:t=i
 ·subst e;simp[hi]
 simp[e]
theorem tabsOf_succ{g:AX}{k:Nat}:O1 g (k+1)=O1 g k++[((g.CO+(k:Int)) / 16).toNat]:=by
 unfold O1;rw[List.range_succ,List.map_append];rfl
theorem tabsUp_succ{x:Ap}{i:Nat}:FM x (i+1)=FM x i++O1 (gd x.Ah.xs i) (gd x.Ah.xs i).BO.toNat:=by
 unfold FM;rw[List.range_succ,List.flatMap_append];simp
def JW(x:Ap):Nat:=(List.range 16).countP (fun t=>(FM x x.Ah.xs.length).contains t)
theorem Zah{p:Nat→Bool}{j:Nat}:(List.range (j+1)).countP p=(List.range j).countP p+if p j then 1 else 0:=by
 rw[List.range_succ,List.countP_append];simp[List.countP_singleton]
theorem Yb(x:Ap):JW x≤16:=Nat.le_trans List.countP_le_length (by simp)
theorem blk_row{b:Nat}{c:Array Value}{t:TypeId}{r:Bool}:RowOf (.blk b (.cells c t (0,0)) r) b 0 c:=fun w hw i v hv=>by
 have hw':w.heap[b]? = some (.cells c t (0,0)):=hw
 simp only[World.cell?,hw',Nat.zero_add];simpa using hv
section
variable (z:Nat)(x:Ap)(n2:Nat)(y11:AX)(j b4 o5:Nat)(w:World)
abbrev KP:=bk z (Ap.arr x) 57
abbrev P5:=bk n2 (AX.arr y11) 64
abbrev Y8:=(7,i6 ((((List.range j).countP (fun t=>(FM x x.Ah.xs.length).contains t))+1:Nat):Int))
abbrev TK:=(7,i6 (((List.range j).countP (fun t=>(FM x x.Ah.xs.length).contains t):Nat):Int))
abbrev MM:Dv:=(11,.slice (some ⟨b4,o5,none⟩) x.Ah.xs.length x.Ah.cap)
abbrev NC:Dv:=(11,.slice x.Ah.a x.Ah.xs.length x.Ah.cap)
abbrev JI:=(12,Aa x.Ah.xs.length)
abbrev Qn:Dv:=(30,.agg (J8 (FM x x.Ah.xs.length)))
abbrev JL:=(3,pt (z+1))
abbrev Y6:=[(Ak w),(KP z x),(bk (z+1) (J8 (FM x x.Ah.xs.length)) 222)]
end
theorem tables_calls(w:World)(x:Ap)(hx:Ap.ok Any w x)(hr:∀ i,i<x.Ah.xs.length→Qz (gd x.Ah.xs i)=true):Calls Tryz.prog 150 #[.agg (Ap.arr x)] w fun e w'=>e = .returned (.int .i64 (JW x:Nat))∧BH (fun _=>False) w w':=by
 obtain⟨z,hz⟩:∃ z,z=w.heap.size:=⟨_,rfl⟩
 refine BA (args:=[.agg (Ap.arr x)]) 39 ⟨w,z,[(Ak w)]⟩ Tryz.func150 rfl (by kernel_rfl) (by kernel_rfl) (En hz) ?_
 have hlR:=hx.Ah.1.len
 refine Cc [0] [(0,.agg (Ap.arr x))] ?_
 refine q_c 14 0 [] [[o0,o0],[o0],[o0,(a1 1),o0,o0]] [Qb z] [(JL z),(NC x),(JI x),(13,i6 0)] ⟨w,z+2,[(Ak w),(KP z x),(bk (z+1) #[.bool false,.bool false,.bool false,.bool false,.bool false,.bool false,.bool false,.bool false,.bool false,.bool false,.bool false,.bool false,.bool false,.bool false,.bool false,.bool false] 222)]⟩ rfl ⟨rfl,Ae⟩ ?_
 refine DI (fun m a w'=>∃ (n2:Nat) (i:Nat),m=x.Ah.xs.length - i∧z+2≤n2∧(i≤x.Ah.xs.length)∧St 39 [(JL z),(NC x),(JI x),(13,Aa i)] [] ⟨w,n2,[(Ak w),(KP z x),(bk (z+1) (J8 (FM x i)) 222)]⟩ a w') (x.Ah.xs.length - 0) ?_ ?_
 ·intro a w' hs;exact⟨(z+2),0,rfl,Nat.le_refl _,Nat.zero_le _,hs⟩
 rintro m a w' ⟨n2,i,rfl,hn1,hki,hs⟩
 refine(?_:G Tryz.prog 39 [(JL z),(NC x),(JI x),(13,Aa i)] [] ⟨w,n2,[(Ak w),(KP z x),(bk (z+1) (J8 (FM x i)) 222)]⟩ _ _ _) a w' hs
 clear hs a w'
 refine Dl ?_
 by_cases h3:(i:Int)<(x.Ah.xs.length:Int)
 ·refine A8 10 0 [1] [[oT]] [BT ((i:Int)<(x.Ah.xs.length:Int))] [(JL z),(NC x),(JI x),(13,Aa i),(14,.bool true)] rfl ⟨bt,Ae⟩ ?_
  obtain⟨b4,o5,ha6,hF8,hc7⟩:=(hx.Ah).1.all (show 0<x.Ah.xs.length by omega)
  replace ha6:x.Ah.a=some ⟨b4,o5,none⟩:=ha6
  refine J4 [(JL z),(MM x b4 o5),(JI x),(13,Aa i),(14,.bool true)] (by(try dsimp only[KP,MM,NC,JI,JL]);simp only[ha6]) ?_
  have hc9:=hc7 i (show i<x.Ah.xs.length by omega)
  have he10:=(hx.Ah).2 i (show i<x.Ah.xs.length by omega)
  obtain⟨y11,hy11⟩:∃ y_,y_=gd x.Ah.xs i:=⟨_,rfl⟩
  rw[←hy11]at he10 hc9
  have hrg:=hr i (by omega);rw[←hy11]at hrg;unfold Qz at hrg;rw[decide_eq_true_eq]at hrg
  refine q_c 8 0 [] [[(oi i),(ol 0 (AX.arr y11)),o0,(an 4 3)],[o0,(a1 3),o0]] [Ea i,i<x.Ah.xs.length,Ec,Hu w b4 (o5+i*4) (AX.arr y11),Qb n2,Qb n2,Qb n2,Qb n2,Qb n2] [(JL z),(5,pt n2),(MM x b4 o5),(JI x),(13,Aa i),(18,i6 y11.BO),(19,i6 0)] ⟨w,n2+1,[(Ak w),(KP z x),(bk (z+1) (J8 (FM x i)) 222),(P5 n2 y11)]⟩ rfl ⟨rfl,(by omega),rfl,EE hc9,rfl,rfl,rfl,rfl,rfl,Ae⟩ ?_
  refine DI (fun m a w'=>∃ (n13:Nat) (k:Nat),m=y11.BO.toNat - k∧n2+1≤n13∧(k≤y11.BO.toNat)∧St 39 [(JL z),(5,pt n2),(MM x b4 o5),(JI x),(13,Aa i),(18,i6 y11.BO),(19,Aa k)] [] ⟨w,n13,[(Ak w),(KP z x),(bk (z+1) (J8 (FM x i++O1 y11 k)) 222),(P5 n2 y11)]⟩ a w') (y11.BO.toNat - 0) ?_ ?_
  ·intro a w' hs;exact⟨(n2+1),0,rfl,Nat.le_refl _,Nat.zero_le _,by(try dsimp only[KP,P5,MM,NC,JI,JL]at hs ⊢);rw[show O1 y11 0=[]from rfl,List.append_nil];exact hs⟩
  rintro m a w' ⟨n13,k,rfl,hn12,hkk,hs⟩
  refine(?_:G Tryz.prog 39 [(JL z),(5,pt n2),(MM x b4 o5),(JI x),(13,Aa i),(18,i6 y11.BO),(19,Aa k)] [] ⟨w,n13,[(Ak w),(KP z x),(bk (z+1) (J8 (FM x i++O1 y11 k)) 222),(P5 n2 y11)]⟩ _ _ _) a w' hs
  clear hs a w'
  refine Dl ?_
  by_cases h14:(k:Int)<y11.BO
  ·refine q_c 19 0 [1] [[oT],[o0,o0],[o0,(a1 3),o0,(ov (i6 (y11.CO+(k:Int)))),(ov (i6 ((y11.CO+(k:Int)) / 16))),(oi (((y11.CO+(k:Int)) / 16).toNat)),(oa [.atv 2 undef])],[(ov (i6 ((k+1:Nat):Int))),o0]] [BT ((k:Int)<y11.BO),Qb n2,Wr ((y11.CO:Int)+(k:Int)) (y11.CO+(k:Int)),Wr (Int.tdiv (y11.CO+(k:Int)) 16) ((y11.CO+(k:Int)) / 16),((y11.CO+(k:Int)) / 16:Int)=((((y11.CO+(k:Int)) / 16).toNat:Nat):Int),((y11.CO+(k:Int)) / 16).toNat<16,Ec,Ec,Qb (z+1),0+(((y11.CO+(k:Int)) / 16).toNat)<(J8 (FM x i++O1 y11 k)).size,Wr ((k:Int)+1) (((k+1:Nat):Int))] [(JL z),(5,pt n2),(MM x b4 o5),(JI x),(13,Aa i),(18,i6 y11.BO),(19,i6 ((k+1:Nat):Int))] ⟨w,n13,[(Ak w),(KP z x),(Ch.blk (z+1) (.cells ((J8 (FM x i++O1 y11 k)).setIfInBounds (0+(((y11.CO+(k:Int)) / 16).toNat)) (.bool true)) 222 (0,0)) true),(P5 n2 y11)]⟩ rfl ⟨bt,rfl,Dk,congrArg (Value.int .i64) (Zbl (by omega) (by omega) (by omega)),(by omega),(by omega),rfl,rfl,rfl,(by rw[WT];omega),Dk,Ae⟩ ?_
   refine CS (fun a w' hs=>⟨y11.BO.toNat - (k+1),by omega,n13,(k+1),rfl,by omega,by omega,by(try dsimp only[KP,P5,MM,NC,JI,JL]at hs ⊢);rw[tabsOf_succ,←List.append_assoc,mark_push];simpa only[Nat.zero_add]using hs⟩)
  refine A8 13 0 [0] [[oF],[(ov (i6 ((i+1:Nat):Int))),o0]] [BF ((k:Int)<y11.BO),Wr ((i:Int)+1) (((i+1:Nat):Int))] [(JL z),(MM x b4 o5),(JI x),(13,i6 ((i+1:Nat):Int))] rfl ⟨bf,Dk,Ae⟩ ?_
  refine C9 [0,1,2] [(Ak w),(KP z x),(bk (z+1) (J8 (FM x i++O1 y11 k)) 222)] rfl rfl ?_
  refine Gw [3,11,12,13] [(JL z),(NC x),(JI x),(13,i6 ((i+1:Nat):Int))] (by(try dsimp only[KP,P5,MM,NC,JI,JL]);simp only[ha6];rfl) ?_
  refine CS (fun a w' hs=>⟨x.Ah.xs.length - (i+1),by omega,n13,(i+1),rfl,by omega,by omega,by(try dsimp only[KP,P5,MM,NC,JI,JL]at hs ⊢);rw[tabsUp_succ,←hy11,show y11.BO.toNat=k by omega];exact hs⟩)
 refine A8 20 0 [0] [[oF],[o0],[⟨.row 2 (J8 (FM x i)),none⟩,o0]] [BF ((i:Int)<(x.Ah.xs.length:Int)),RowOf (bk (z+1) (J8 (FM x i)) 222) (z+1) 0 (J8 (FM x i))] [(7,i6 0),(30,.agg (J8 (FM x i))),(31,i6 0)] rfl ⟨bf,blk_row,Ae⟩ ?_
 have e0:i=x.Ah.xs.length:=by omega
 subst e0
 refine DI (fun m a w'=>∃ (n16:Nat) (j:Nat),m=16 - j∧n2≤n16∧(j≤16)∧St 39 [(TK x j),(Qn x),(31,Aa j)] [] ⟨w,n16,(Y6 z x w)⟩ a w') (16 - 0) ?_ ?_
 ·intro a w' hs;exact⟨n2,0,rfl,Nat.le_refl _,Nat.zero_le _,hs⟩
 rintro m a w' ⟨n16,j,rfl,hn15,hkj,hs⟩
 refine(?_:G Tryz.prog 39 [(TK x j),(Qn x),(31,Aa j)] [] ⟨w,n16,(Y6 z x w)⟩ _ _ _) a w' hs
 clear hs a w'
 have hcl:(List.range j).countP (fun t=>(FM x x.Ah.xs.length).contains t)≤j:=Nat.le_trans List.countP_le_length (by simp)
 refine Dl ?_
 by_cases h17:(j:Int)<16
 ·refine A8 17 0 [1] [[oT],[⟨.aidx j (.bool ((FM x x.Ah.xs.length).contains j)),none⟩,o0],[o0]] [BT ((j:Int)<16),Ea j,j<16,((J8 (FM x x.Ah.xs.length)):Array Value)[GI 1 j]? = some (.bool ((FM x x.Ah.xs.length).contains j))] [(TK x j),(Qn x),(31,Aa j),(34,.bool ((FM x x.Ah.xs.length).contains j))] rfl ⟨bt,rfl,(by omega),(Zy (t:=j) _ (by omega)),Ae⟩ ?_
  by_cases h18:((FM x x.Ah.xs.length).contains j)=true
  ·refine A8 7 0 [3] [[o0,(ov (i6 ((((List.range j).countP (fun t=>(FM x x.Ah.xs.length).contains t))+1:Nat):Int))),o0],[(ov (i6 ((j+1:Nat):Int))),o0]] [Value.bool ((FM x x.Ah.xs.length).contains j)=Value.bool true,Wr (((((List.range j).countP (fun t=>(FM x x.Ah.xs.length).contains t):Nat):Int):Int)+1) (((((List.range j).countP (fun t=>(FM x x.Ah.xs.length).contains t))+1:Nat):Int)),Wr ((j:Int)+1) (((j+1:Nat):Int))] [(Y8 x j),(Qn x),(31,i6 ((j+1:Nat):Int))] rfl ⟨(congrArg Value.bool h18),Dk,Dk,Ae⟩ ?_
   have hT:=Zah (p:=fun t=>(FM x x.Ah.xs.length).contains t) (j:=j)
   simp only[h18,if_true,if_false,Nat.add_zero]at hT
   refine Cb [7,30,31] [(Y8 x j),(Qn x),(31,i6 ((j+1:Nat):Int))] ?_
   refine CS (fun a w' hs=>⟨16 - (j+1),by omega,n16,(j+1),rfl,by omega,by omega,by(try dsimp only[KP,P5,Y8,TK,MM,NC,JI,Qn,JL,Y6]at hs ⊢);rw[hT];exact hs⟩)
  refine A8 6 0 [2] [[(ov (i6 ((j+1:Nat):Int))),o0]] [Value.bool ((FM x x.Ah.xs.length).contains j)=Value.bool false,Wr ((j:Int)+1) (((j+1:Nat):Int))] [(TK x j),(Qn x),(31,i6 ((j+1:Nat):Int))] rfl ⟨(congrArg Value.bool (Bool.eq_false_iff.2 h18)),Dk,Ae⟩ ?_
  have hT:=Zah (p:=fun t=>(FM x x.Ah.xs.length).contains t) (j:=j)
  simp only[(Bool.eq_false_iff.2 h18),Bool.false_eq_true,if_true,if_false,Nat.add_zero]at hT
  refine Cb [7,30,31] [(TK x j),(Qn x),(31,i6 ((j+1:Nat):Int))] ?_
  refine CS (fun a w' hs=>⟨16 - (j+1),by omega,n16,(j+1),rfl,by omega,by omega,by(try dsimp only[KP,P5,Y8,TK,MM,NC,JI,Qn,JL,Y6]at hs ⊢);rw[hT];exact hs⟩)
 refine A8 15 0 [0] [[oF],[o0,o0]] [BF ((j:Int)<16)] [(2,i6 (((List.range j).countP (fun t=>(FM x x.Ah.xs.length).contains t):Nat):Int))] rfl ⟨bf,Ae⟩ ?_
 refine AP [] [] (i6 (((List.range j).countP (fun t=>(FM x x.Ah.xs.length).contains t):Nat):Int)) Ae ?_
 intro w19 hw19
 refine⟨congrArg (fun n=>Ending.returned (i6 n)) (?_:((((List.range j).countP (fun t=>(FM x x.Ah.xs.length).contains t):Nat):Int):Int)=(JW x:Int)),Au hw19⟩
 rw[show j=16 by omega];rfl
open Go Go.RowKit Go.Proofs.YtekjfiegdpoajaaGreatDoor.Eng Go.Proofs.YtekjfiegdpoajaaGreatDoor.Mem
def Ei(c:Ai)(i:Nat):Int:=c.Kernel*16+2+24*(i:Int)
def ZG(c:Ai)(i:Nat):BJ:=⟨Ei c i,Ei c i+2,Ei c i+2+17,0,⟨none,0,[]⟩⟩
def Ib(c:Ai)(i:Nat):List BJ:=(List.range i).map (ZG c)
theorem Za9{c:Ai}{i:Nat}:Ib c (i+1)=Ib c i++[ZG c i]:=by unfold Ib;rw[List.range_succ,List.map_append];rfl
theorem Xc{c:Ai}{i:Nat}:(Ib c i).length=i:=by simp[Ib]
theorem Zbd{β:Type}[Inhabited β]{f:Nat→β}{n i:Nat}(h:i<n):gd ((List.range n).map f) i=f i:=by
 rw[E5 (by simpa using h)];simp
def JQ(c:Ai)(k:Nat):Nat:=(Dc c (k:Int) false).length
def cLen(c:Ai)(k:Nat):Int:=2+CJ (gd c.Aj.xs k)+(JQ c k:Int)*portOf (gd c.Aj.xs k)
def DV(c:Ai):Nat→Int
 | 0=>Ei c c.Ac.xs.length
 | k+1=>DV c k+cLen c k
def Me(c:Ai)(k j:Nat):Int:=DV c k+2+CJ (gd c.Aj.xs k)+(j:Int)*portOf (gd c.Aj.xs k)
def P7(c:Ai)(k d:Nat):DC:=⟨(gd (Dc c (k:Int) false) d).partition,(gd (Dc c (k:Int) false) d).port,Me c k d⟩
def EQ(c:Ai)(k j:Nat):List DC:=(List.range j).map (P7 c k)
theorem destsUp_succ{c:Ai}{k j:Nat}:EQ c k (j+1)=EQ c k j++[P7 c k j]:=by unfold EQ;rw[List.range_succ,List.map_append];rfl
theorem U9{c:Ai}{k j:Nat}:(EQ c k j).length=j:=by simp[EQ]
theorem dAt_succ{c:Ai}{k j:Nat}:Me c k (j+1)=Me c k j+portOf (gd c.Aj.xs k):=by
 unfold Me;rw[show((j+1:Nat):Int)=(j:Int)+1 from by omega,Int.add_mul];omega
theorem cAt_succ{c:Ai}{k:Nat}:DV c (k+1)=Me c k (JQ c k):=by unfold Me;rw[DV,cLen];omega
def Gv(c:Ai)(k:Nat)(s:Sl DC):Di:=⟨DV c k,DV c k+2,(gd (Dc c (k:Int) true) 0).partition,(gd (Dc c (k:Int) true) 0).port,s⟩
def TP(c:Ai):Int:=(DV c c.Aj.xs.length+16 - 1) / 16
def Fz(c:Ai):Nat→Int
 | 0=>TP c
 | i+1=>Fz c i+1+(JW (gd c.Ac.xs i):Int)
def Gp(c:Ai)(i n:Nat):List Int:=(List.range n).map (fun(k:Nat)=>Fz c i+1+(k:Int))
theorem tabsAt_succ{c:Ai}{i n:Nat}:Gp c i (n+1)=Gp c i n++[Fz c i+1+(n:Int)]:=by unfold Gp;rw[List.range_succ,List.map_append];rfl
theorem VO{c:Ai}{i n:Nat}:(Gp c i n).length=n:=by simp[Gp]
def Jv(c:Ai)(i:Nat)(s:Sl Int):BJ:=⟨Ei c i,Ei c i+2,Ei c i+2+17,Fz c i,s⟩
structure Fine(c:Ai):Prop where
 kn:0≤c.Kernel∧c.Kernel<1024
 pn:c.Ac.xs.length≤8
 cn:c.Aj.xs.length≤16
 parts:∀ i,i<c.Ac.xs.length→FN c.Aj.xs.length (gd c.Ac.xs i)=true
 chans:∀ i,i<c.Aj.xs.length→LV c i=true
theorem fine_of{c:Ai}(h:FQ c=true):Fine c:=by
 unfold FQ at h
 simp only[Bool.and_eq_true,decide_eq_true_eq,List.all_eq_true,List.mem_range]at h
 exact⟨h.1.1.1.1,h.1.1.1.2,h.1.1.2,fun i hi=>h.1.2 _ (by rw[E5 hi];exact List.getElem_mem hi),h.2⟩
theorem Fine.dests{c:Ai}(h:Fine c){k:Nat}(hk:k<c.Aj.xs.length):(Dc c (k:Int) true).length=1∧1≤JQ c k∧JQ c k≤4:=by
 have:=h.chans k hk
 unfold LV at this
 simp only[Bool.and_eq_true,decide_eq_true_eq]at this
 have e1:=Sz c k true
 have e2:=Sz c k false
 unfold JQ
 omega
theorem cLen_bd{c:Ai}(h:Fine c){k:Nat}(hk:k<c.Aj.xs.length):2≤cLen c k∧cLen c k≤695:=by
 have h1:=Uj (gd c.Aj.xs k)
 have h2:=Zr (gd c.Aj.xs k)
 have h3:=h.dests hk
 unfold cLen
 have h4:=Int.mul_nonneg (show(0:Int)≤(JQ c k:Int)by omega) h2.1
 have h5:=Int.mul_le_mul (show(JQ c k:Int)≤4 by omega) h2.2 h2.1 (by omega)
 omega
theorem Zf{c:Ai}(h:Fine c):∀ (k:Nat),k≤c.Aj.xs.length→Ei c c.Ac.xs.length≤DV c k∧DV c k≤Ei c c.Ac.xs.length+695*k
 | 0,_=>by simp[DV]
 | k+1,hk=>by
  have h1:=Zf h k (by omega)
  have h2:=cLen_bd h (show k<c.Aj.xs.length by omega)
  rw[DV];omega
theorem dAt_bd{c:Ai}(h:Fine c){k j:Nat}(hk:k<c.Aj.xs.length)(hj:j≤4):DV c k≤Me c k j∧Me c k j≤DV c k+695:=by
 have h1:=Uj (gd c.Aj.xs k)
 have h2:=Zr (gd c.Aj.xs k)
 unfold Me
 have h4:=Int.mul_nonneg (show(0:Int)≤(j:Int)by omega) h2.1
 have h5:=Int.mul_le_mul (show(j:Int)≤4 by omega) h2.2 h2.1 (by omega)
 omega
theorem frame0_bd{c:Ai}(h:Fine c):0≤TP c∧TP c≤2000:=by
 have h1:=Zf h _ (Nat.le_refl _)
 have h2:=h.kn;have h3:=h.pn;have h4:=h.cn
 unfold TP
 unfold Ei at h1
 omega
theorem Wq{c:Ai}(h:Fine c):∀ (i:Nat),i≤c.Ac.xs.length→0≤Fz c i∧Fz c i≤2000+17*i
 | 0,_=>by have:=frame0_bd h;simp only[Fz];omega
 | i+1,hi=>by
  have h1:=Wq h i (by omega)
  have h2:=Yb (gd c.Ac.xs i)
  rw[Fz];omega
theorem gd_push{α:Type}[Inhabited α]{xs:List α}{y:α}:gd (xs++[y]) xs.length=y:=by rw[E5 (by simp)];simp
theorem gd_old{α:Type}[Inhabited α]{xs:List α}{y:α}{q:Nat}(h:q<xs.length):gd (xs++[y]) q=gd xs q:=by
 rw[E5 h,E5 (by simp;omega),List.getElem_append_left h]
theorem UT{α:Type}[Inhabited α]{xs:List α}{y:α}{q:Nat}(h:q<xs.length):gd (xs.set q y) q=y:=by rw[E5 (by simpa using h)];simp
theorem Uy{α:Type}[Inhabited α]{xs:List α}{y:α}{q p:Nat}(h:q≠p)(hp:p<xs.length):gd (xs.set q y) p=gd xs p:=by rw[E5 (by simpa using hp),E5 hp,List.getElem_set_ne h]
theorem Sr{α:Type}{xs:List α}{y:α}{i:Nat}(h:i<xs.length):(xs.set i y).take (i+1)=xs.take i++[y]:=by
 rw[List.take_succ_eq_append_getElem (by simpa using h),List.getElem_set_self]
 rw[List.take_set_of_le (Nat.le_refl i)]
theorem chans_push{c:Ai}{cs:List Di}{k:Nat}(hl:cs.length=k)(h:∀ q,q<k→∃ a cp,gd cs q=Gv c q ⟨a,cp,EQ c q (JQ c q)⟩){y:Di}{a:Option Addr}{cp:Nat}(hy:y=Gv c k ⟨a,cp,EQ c k (JQ c k)⟩) :
   ∀ q,q<k+1→∃ a cp,gd (cs++[y]) q=Gv c q ⟨a,cp,EQ c q (JQ c q)⟩:=by
 intro q hq
 by_cases e:q=k
 · subst e;subst hl;exact⟨a,cp,by rw[gd_push];exact hy⟩
 · rw[gd_old (by omega)];exact h q (by omega)
structure IsLay(c:Ai)(L:IE):Prop where
 bar:L.Tu=c.Kernel*16
 fin:L.End=Fz c c.Ac.xs.length
 pl:L.Ac.xs.length=c.Ac.xs.length
 ps:∀ p,p<c.Ac.xs.length→∃ a cp,gd L.Ac.xs p=Jv c p ⟨a,cp,Gp c p (JW (gd c.Ac.xs p))⟩
 cl:L.Aj.xs.length=c.Aj.xs.length
 cs:∀ k,k<c.Aj.xs.length→∃ a cp,gd L.Aj.xs k=Gv c k ⟨a,cp,EQ c k (JQ c k)⟩
theorem tAt_succ{c:Ai}{i:Nat}:Fz c (i+1)=Fz c i+1+(JW (gd c.Ac.xs i):Int):=rfl
theorem tAt_zero{c:Ai}:Fz c 0=(DV c c.Aj.xs.length+16 - 1) / 16:=rfl
theorem regs_ok{n:Nat}{x:Ap}(h:FN n x=true):∀ i,i<x.Ah.xs.length→Qz (gd x.Ah.xs i)=true:=fun i hi=>by
 rw[E5 hi];exact List.all_eq_true.1 (part_regs h).2 _ (List.getElem_mem hi)
theorem can_yes(w:World)(c:Ai)(hc:Ai.ok Any w c)(h:FQ c=true):Calls Tryz.prog 145 #[.agg (Ai.arr c)] w fun e w'=>e = .returned (.bool true)∧BH (fun _=>False) w w':=by
 have:=Zaw w c hc
 rwa [h]at this
theorem can_no(w:World)(c:Ai)(hc:Ai.ok Any w c)(h:FQ c=false):Calls Tryz.prog 145 #[.agg (Ai.arr c)] w fun e w'=>e = .returned (.bool false)∧BH (fun _=>False) w w':=by
 have:=Zaw w c hc
 rwa [h]at this
def layS(n:Nat)(L:IE):List Ch:=[BB n 203 5 BJ.cells L.Ac.val L.Ac.xs,BB n 194 5 Di.cells L.Aj.val L.Aj.xs,Ed n 205 3 DC.cells (L.Aj.xs.map Di.Ob),Ed n 3 1 (fun x:Int=>[Value.int .i64 x]) (L.Ac.xs.map BJ.Tables)]
def LayOwn(n:Nat)(W:World)(L:IE):Prop:=∃ w0,Sat ⟨w0,W.heap.size,layS n L⟩ W
theorem ZX{c:Ai}{k:Int}{b:Bool}(hp:∀ i,i<c.Ac.xs.length→(gd c.Ac.xs i).Aq.xs.length≤8)(h8:c.Ac.xs.length≤8):∀ y∈Dc c k b,0≤y.partition∧y.partition<8∧0≤y.port∧y.port<8:=by
 intro y hy
 unfold Dc EL at hy
 simp only[List.mem_flatMap,List.mem_range]at hy
 obtain⟨p,hpl,hy⟩:=hy
 unfold Et at hy
 simp only[List.mem_map,List.mem_filter,List.mem_range]at hy
 obtain⟨q,⟨hq, -⟩,rfl⟩:=hy
 have:=hp p hpl
 simp only
 omega
theorem JM{x:Int}(h:0≤x)(h2:x≤1000000):He .i64 x:=⟨by omega,by omega⟩
theorem VL{F:Nat→Prop}{W:World}{c:Ai}{k:Int}{b:Bool}(hf:Fine c):∀ i,i<(Dc c k b).length→Gg.ok F W (gd (Dc c k b) i):=fun i hi=>by
 have:=ZX (k:=k) (b:=b) (fun i hi=>Sv (hf.parts i hi)) hf.pn (gd (Dc c k b) i) (by rw[E5 hi];exact List.getElem_mem _)
 exact⟨JM (by omega) (by omega),JM (by omega) (by omega)⟩
theorem Wl{α:Type}{base:Nat}{e:TypeId}{sz:Nat}{cells:α→List Value}{hs:List (Sl α)}{W:World}(hsz:∀ x,(cells x).length=sz)(h:(Ed base e sz cells hs).holds W){s:Sl α}(hs':s∈hs)(hl:s.xs.length≤140737488351232):FV cells sz (New base) W s:=Pn hsz (h.1 s hs') hl
theorem lay_ok{c:Ai}{n:Nat}{W:World}{L:IE}(hf:Fine c)(hL:IsLay c L)(ho:LayOwn n W L):IE.ok (New n) W L:=by
 obtain⟨w0,hs⟩:=ho
 have h0:W.ownsRow n 203 5 L.Ac.val L.Ac.xs.length (L.Ac.xs.flatMap BJ.cells):=hs.at (i:=0) rfl
 have h1:W.ownsRow n 194 5 L.Aj.val L.Aj.xs.length (L.Aj.xs.flatMap Di.cells):=hs.at (i:=1) rfl
 have h2:(Ed n 205 3 DC.cells (L.Aj.xs.map Di.Ob)).holds W:=hs.at (i:=2) rfl
 have h3:(Ed n 3 1 (fun x:Int=>[Value.int .i64 x]) (L.Ac.xs.map BJ.Tables)).holds W:=hs.at (i:=3) rfl
 have hkn:=hf.kn;have hpn:=hf.pn;have hcn:=hf.cn
 refine⟨JM (by rw[hL.bar];omega) (by rw[hL.bar];omega),⟨Pn (fun _=>rfl) h0 (by rw[hL.pl];omega), ?_⟩,⟨Pn (fun _=>rfl) h1 (by rw[hL.cl];omega), ?_⟩, ?_⟩
 ·intro i hi
  have hi':i<c.Ac.xs.length:=by rw[←hL.pl];exact hi
  obtain⟨a,cp,e⟩:=hL.ps i hi'
  have ht:=Wq hf i (by omega)
  have hn:=Yb (gd c.Ac.xs i)
  have hm:(gd L.Ac.xs i).Tables∈L.Ac.xs.map BJ.Tables:=List.mem_map_of_mem (by rw[E5 hi];exact List.getElem_mem hi)
  have hsl:=Wl (by intro _;rfl) h3 hm (by rw[e];simp only[Jv,VO];omega)
  rw[e]at hsl ⊢
  refine⟨JM (by simp only[Jv,Ei];omega) (by simp only[Jv,Ei];omega),JM (by simp only[Jv,Ei];omega) (by simp only[Jv,Ei];omega),JM (by simp only[Jv,Ei];omega) (by simp only[Jv,Ei];omega),JM (by simp only[Jv];omega) (by simp only[Jv];omega),hsl, ?_⟩
  intro q hq
  have hq':q<JW (gd c.Ac.xs i):=by simpa only[Jv,VO]using hq
  show He .i64 (gd _ _)
  have:gd (Jv c i ⟨a,cp,Gp c i (JW (gd c.Ac.xs i))⟩).Tables.xs q=Fz c i+1+(q:Int):=Zbd hq'
  rw[this]
  exact JM (by omega) (by omega)
 ·intro k hk
  have hk':k<c.Aj.xs.length:=by rw[←hL.cl];exact hk
  obtain⟨a,cp,e⟩:=hL.cs k hk'
  have hb:=Zf hf k (by omega)
  have hd:=hf.dests hk'
  have hp0:Ei c c.Ac.xs.length=c.Kernel*16+2+24*(c.Ac.xs.length:Int):=rfl
  have hpp:∀ i,i<c.Ac.xs.length→(gd c.Ac.xs i).Aq.xs.length≤8:=fun i hi=>Sv (hf.parts i hi)
  have hm:(gd L.Aj.xs k).Ob∈L.Aj.xs.map Di.Ob:=List.mem_map_of_mem (by rw[E5 hk];exact List.getElem_mem hk)
  have hsl:=Wl (by intro _;rfl) h2 hm (by rw[e];simp only[Gv,U9];omega)
  have h1p:0<(Dc c (k:Int) true).length:=by omega
  have hsrc:=ZX (k:=(k:Int)) (b:=true) hpp hpn (gd (Dc c (k:Int) true) 0) (by rw[E5 h1p];exact List.getElem_mem _)
  rw[e]at hsl ⊢
  refine⟨JM (by simp only[Gv];omega) (by simp only[Gv];omega),JM (by simp only[Gv];omega) (by simp only[Gv];omega),JM (by simp only[Gv];omega) (by simp only[Gv];omega),JM (by simp only[Gv];omega) (by simp only[Gv];omega),hsl, ?_⟩
  intro q hq
  have hq':q<JQ c k:=by simpa only[Gv,U9]using hq
  have e2:gd (Gv c k ⟨a,cp,EQ c k (JQ c k)⟩).Ob.xs q=P7 c k q:=Zbd hq'
  have hdst:=ZX (k:=(k:Int)) (b:=false) hpp hpn (gd (Dc c (k:Int) false) q) (by rw[E5 hq'];exact List.getElem_mem _)
  have hdb:=dAt_bd hf hk' (show q≤4 by omega)
  rw[e2]
  exact⟨JM (by simp only[P7];omega) (by simp only[P7];omega),JM (by simp only[P7];omega) (by simp only[P7];omega),JM (by simp only[P7];omega) (by simp only[P7];omega)⟩
 have:=Wq hf _ (Nat.le_refl _)
 exact JM (by rw[hL.fin];omega) (by rw[hL.fin];omega)
theorem of_no(w:World)(c:Ai)(hc:Ai.ok Any w c)(hok:FQ c=false):Calls Tryz.prog 136 #[.agg (Ai.arr c)] w fun e w'=>e = .returned (.tuple #[.agg #[.int .i64 0,.slice none 0 0,.slice none 0 0,.int .i64 0],.int .i64 150])∧BH (fun _=>False) w w':=by
 obtain⟨z,hz⟩:∃ z,z=w.heap.size:=⟨_,rfl⟩
 refine BA (args:=[.agg (Ai.arr c)]) 148 ⟨w,z,[(Ak w)]⟩ Tryz.func136 rfl (by kernel_rfl) (by kernel_rfl) (En hz) ?_
 refine Cc [0] [(0,.agg (Ai.arr c))] ?_
 refine q_c 7 1 [] [[o0,o0,o0],[(an 7 1)]] [Qb z,Qb z,Qb z,Qb z,Qb z,Qb z,Qb z] [(1,pt z),(2,pt (z+1)),(16,.agg (Ai.arr c))] ⟨w,z+2,[(Ak w),(bk z (Ai.arr c) 27),(bk (z+1) #[i6 0,.slice none 0 0,.slice none 0 0,i6 0] 172)]⟩ rfl ⟨rfl,rfl,rfl,rfl,rfl,rfl,rfl,Ae⟩ ?_
 refine BV 145 #[.agg (Ai.arr c)] (some 17) (.bool false) (fun w1 hw1=>can_no w1 c (hc.ext (hw1.ext rfl) (fun _ h=>h)) hok) (fun n2 (hn3:z+2≤n2) => ?_)
 refine Bv 8 0 [1] [[o0],[o0,(an 4 2),o0]] [Qb (z+1),Qb (z+1),Qb (z+1),Qb (z+1)] [(2,pt (z+1)),(3,i6 150)] rfl ⟨rfl,rfl,rfl,rfl,Ae⟩ ?_
 refine AP [.at 2,.at 2,.at 2,.at 2] [Qb (z+1),Qb (z+1),Qb (z+1),Qb (z+1)] (.tuple #[.agg #[i6 0,.slice none 0 0,.slice none 0 0,i6 0],i6 150]) ⟨rfl,rfl,rfl,rfl,Ae⟩ ?_
 intro w4 hw4
 exact⟨rfl,Au hw4⟩
section
variable (n2:Nat)(c:Ai)(aP:Option Addr)(i cP:Nat)(ax100:Option Addr)(csG:List Di)(k:Nat)(y48:Gg)(aD:Option Addr)(cD j cp101:Nat)(ax20:Option Addr)(cp21 b50:Nat)(ax96:Option Addr)(y89:Gg)(cp97 n80:Nat)(w55 w36:World)(b119:Nat)(psG:List BJ)(cP2:Nat)(aC:Option Addr)(cC n9:Nat)(aP2:Option Addr)(w91:World)(z:Nat)(y34:AQ)(n25 p:Nat)(t n109:Nat)(y118:Ap)(aT:Option Addr)(cT:Nat)(ax134:Option Addr)(cp135 b111:Nat)(o112 b82:Nat)(o83 cp40:Nat)(b27 o28:Nat)(ax39:Option Addr)(w:World)
abbrev WG:=bk (n2+1) #[i6 (c.Kernel*16),.slice aP ((Ib c i).length) cP,.slice ax100 ((csG++[(⟨DV c k,(DV c k)+2,y48.partition,y48.port,(⟨aD,cD,EQ c k j⟩:Sl DC)⟩:Di)]).length) cp101,i6 0] 172
abbrev WL:Ch:= .blk (n2+1) (.cells #[i6 (c.Kernel*16),.slice ax20 ((Ib c i++[(⟨Ei c i,(Ei c i)+2,((Ei c i)+2)+17,0,(⟨none,0,[]⟩:Sl Int)⟩:BJ)]).length) cp21,.slice none 0 0,i6 0] 172 (0,0)) true
abbrev Um:=bk b50 #[i6 (DV c k),i6 ((DV c k)+2),i6 y48.partition,i6 y48.port,.slice ax96 ((EQ c k j++[(⟨y89.partition,y89.port,Me c k j⟩:DC)]).length) cp97] 194
abbrev IC:=bk b50 #[i6 (DV c k),i6 ((DV c k)+2),i6 y48.partition,i6 y48.port,.slice aD ((EQ c k j).length) cD] 194
abbrev Wx:=bk n80 #[i6 (DV c k),i6 ((DV c k)+2),i6 y48.partition,i6 y48.port,.slice aD ((EQ c k j).length) cD] 194
abbrev qzm6_5:Ch:= .blk w55.heap.size (.cells #[i6 (DV c k),i6 ((DV c k)+2),i6 y48.partition,i6 y48.port,.slice none 0 0] 194 (0,0)) true
abbrev qzm6_6:Ch:= .blk w36.heap.size (.cells #[i6 (DV c k),i6 ((DV c k)+2),i6 y48.partition,i6 y48.port,.slice none 0 0] 194 (0,0)) true
abbrev JY:=bk (n2+1) #[i6 (c.Kernel*16),.slice (some ⟨b119,0,none⟩) psG.length cP2,.slice aC csG.length cC,i6 0] 172
abbrev WQ:=bk n9 #[i6 (Ei c i),i6 ((Ei c i)+2),i6 (((Ei c i)+2)+17),i6 0,.slice none 0 0] 203
abbrev Eu:=bk (n2+1) #[i6 (c.Kernel*16),.slice aP ((Ib c i).length) cP,.slice aC csG.length cC,i6 0] 172
abbrev G5:=bk (n2+1) #[i6 (c.Kernel*16),.slice aP ((Ib c i).length) cP,.slice none 0 0,i6 0] 172
abbrev OH:=bk (n2+1) #[i6 (c.Kernel*16),.slice aP2 psG.length cP2,.slice aC csG.length cC,i6 0] 172
abbrev Xh:Ch:= .blk w55.heap.size (.cells #[i6 0,i6 0,i6 0,i6 0,.slice none 0 0] 194 (0,0)) true
abbrev UU:Ch:= .blk w36.heap.size (.cells #[i6 0,i6 0,i6 0,i6 0,.slice none 0 0] 194 (0,0)) true
abbrev QW:Ch:= .blk w91.heap.size (.cells #[i6 y89.partition,i6 y89.port,i6 (Me c k j)] 205 (0,0)) true
abbrev Cj:=bk (z+1) #[i6 0,.slice none 0 0,.slice none 0 0,i6 0] 172
abbrev HY:=bk n2 #[i6 (((DV c k)+2)+(CJ y34))] 3
abbrev QL:=bk n25 #[i6 ((Fz c p+1+(t:Int))+1)] 3
abbrev QY:=bk n2 #[i6 ((((Ei c i)+2)+17)+5)] 3
abbrev O7:=bk n2 #[i6 ((Me c k j)+(portOf y34))] 3
abbrev PT:=bk n25 #[i6 (Fz c p+1+(t:Int))] 3
abbrev UG:=bk n2 #[i6 ((DV c k)+2)] 3
abbrev Il:=bk n2 #[i6 (Me c k j)] 3
abbrev Jr:=bk n109 (Ap.arr y118) 57
abbrev Na:=bk n25 #[i6 (Fz c p)] 3
abbrev EK:=bk n2 #[i6 (DV c k)] 3
abbrev Ee:=bk n25 (AQ.arr y34) 49
abbrev MZ:=bk n80 (Gg.arr y89) 216
abbrev Ci:=bk z (Ai.arr c) 27
abbrev UV:=BB z 203 5 BJ.cells (.slice (some ⟨b119,0,none⟩) psG.length cP2) ((psG.set p (⟨Ei c p,Ei c p+2,Ei c p+2+17,Fz c p,(⟨aT,cT,Gp c p t⟩:Sl Int)⟩:BJ)).set p (⟨Ei c p,Ei c p+2,Ei c p+2+17,Fz c p,(⟨ax134,cp135,((Gp c p t)++[Fz c p+1+(t:Int)])⟩:Sl Int)⟩:BJ))
abbrev Vj:=BB z 194 5 Di.cells (.slice ax100 ((csG++[(⟨DV c k,(DV c k)+2,y48.partition,y48.port,(⟨aD,cD,EQ c k j⟩:Sl DC)⟩:Di)]).length) cp101) (csG++[(⟨DV c k,(DV c k)+2,y48.partition,y48.port,(⟨aD,cD,EQ c k j⟩:Sl DC)⟩:Di)])
abbrev UO:=BB z 203 5 BJ.cells (.slice ax20 ((Ib c i++[(⟨Ei c i,(Ei c i)+2,((Ei c i)+2)+17,0,(⟨none,0,[]⟩:Sl Int)⟩:BJ)]).length) cp21) (Ib c i++[(⟨Ei c i,(Ei c i)+2,((Ei c i)+2)+17,0,(⟨none,0,[]⟩:Sl Int)⟩:BJ)])
abbrev QX:=BB z 205 3 DC.cells (.slice ax96 ((EQ c k j++[(⟨y89.partition,y89.port,Me c k j⟩:DC)]).length) cp97) (EQ c k j++[(⟨y89.partition,y89.port,Me c k j⟩:DC)])
abbrev Lt:=BB z 203 5 BJ.cells (.slice (some ⟨b119,0,none⟩) psG.length cP2) (psG.set p (⟨Ei c p,Ei c p+2,Ei c p+2+17,Fz c p,(⟨aT,cT,Gp c p t⟩:Sl Int)⟩:BJ))
abbrev Qc:=BB z 3 1 (fun x:Int=>[i6 x]) (.slice aT ((Gp c p t).length) cT) (Gp c p t)
abbrev Dw:=BB z 203 5 BJ.cells (.slice aP ((Ib c i).length) cP) (Ib c i)
abbrev I4:=Ed z 3 1 (fun x:Int=>[i6 x]) ((psG.take p).map BJ.Tables)
abbrev Ij:=BB z 205 3 DC.cells (.slice aD ((EQ c k j).length) cD) (EQ c k j)
abbrev NV:=BB z 203 5 BJ.cells (.slice aP2 psG.length cP2) psG
abbrev Dq:=BB z 194 5 Di.cells (.slice aC csG.length cC) csG
abbrev Dn:=Ed z 205 3 DC.cells (csG.map Di.Ob)
abbrev X6:Dv:=(42,.slice ax20 ((Ib c i++[(⟨Ei c i,(Ei c i)+2,((Ei c i)+2)+17,0,(⟨none,0,[]⟩:Sl Int)⟩:BJ)]).length) cp21)
abbrev Vq:Dv:=(73,.agg #[i6 (DV c k),i6 ((DV c k)+2),i6 y48.partition,i6 y48.port,.slice none 0 0])
abbrev Gs:Dv:=(109,.slice (some ⟨b111,o112,none⟩) c.Ac.xs.length c.Ac.cap)
abbrev JF:Dv:=(74,.slice (some ⟨b82,o83,none⟩) ((Dc c (k:Int) false).length) cp40)
abbrev Dh:Dv:=(46,.slice (some ⟨b27,o28,none⟩) c.Aj.xs.length c.Aj.cap)
abbrev LG:Dv:=(109,.slice c.Ac.a c.Ac.xs.length c.Ac.cap)
abbrev FO:=(75,i6 (((Dc c (k:Int) false).length:Nat):Int))
abbrev Iq:Dv:=(46,.slice c.Aj.a c.Aj.xs.length c.Aj.cap)
abbrev Fe:Dv:=(13,.func (.func 157) #[] #[pt n25])
abbrev NY:Dv:=(61,.func (.func 157) #[] #[pt n2])
abbrev BZ:Dv:=(4,.func (.func 157) #[] #[pt n2])
abbrev IL:Dv:=(74,.slice ax39 ((Dc c (k:Int) false).length) cp40)
abbrev Eh:Dv:=(9,.slice ax39 ((Dc c (k:Int) false).length) cp40)
abbrev Fg:=(110,Aa c.Ac.xs.length)
abbrev Ff:=(29,Aa c.Ac.xs.length)
abbrev CW:=(47,Aa c.Aj.xs.length)
abbrev PG:=(10,pt w55.heap.size)
abbrev KX:=(10,pt w36.heap.size)
abbrev Ja:=(124,i6 ((JW y118:Nat):Int))
abbrev QZ:Dv:=(33,.slice aP ((Ib c i).length) cP)
abbrev BD:=(5,pt (n2+1))
abbrev Bo:=(2,pt (z+1))
abbrev FC:=(10,pt b50)
abbrev Du:=(7,pt n25)
abbrev PQ:=[(Ak w),(Ci c z),(Cj z),(EK n2 c k),(JY n2 c csG b119 psG cP2 aC cC),(Lt c b119 psG cP2 z p t aT cT),(Dn csG z),(Dq csG aC cC z),(PT c n25 p t),(I4 psG z p),(Jr n109 y118),(Qc c z p t aT cT)]
abbrev SX:=[(Ak w),(Ci c z),(Cj z),(HY n2 c k y34),(Eu n2 c aP i cP csG aC cC),(Dw c aP i cP z),(Dn csG z),(Dq csG aC cC z),(Ee y34 n25),(mid (n25+1) w36),(qzm6_5 c k y48 w55)]
abbrev Tm:=[(Ak w),(Ci c z),(Cj z),(HY n2 c k y34),(Eu n2 c aP i cP csG aC cC),(Dw c aP i cP z),(Dn csG z),(Dq csG aC cC z),(Ee y34 n25),(mid (n25+1) w36),(qzm6_6 c k y48 w36)]
abbrev Xi:=[(Ak w),(Ci c z),(Cj z),(UG n2 c k),(Eu n2 c aP i cP csG aC cC),(Dw c aP i cP z),(Dn csG z),(Dq csG aC cC z),(Ee y34 n25),(mid (n25+1) w36),(UU w36)]
abbrev NU:=[(Ak w),(Ci c z),(Cj z),(EK n2 c k),(OH n2 c csG psG cP2 aC cC aP2),(NV psG cP2 aP2 z),(Dn csG z),(Dq csG aC cC z),(Na c n25 p),(I4 psG z p)]
abbrev I5:=[(Ak w),(Ci c z),(Cj z),(EK n2 c k),(Eu n2 c aP i cP csG aC cC),(Dw c aP i cP z),(Dn csG z),(Dq csG aC cC z)]
abbrev Io:=[(Ak w),(Ci c z),(Cj z),(bk n2 #[i6 (Ei c i)] 3),(G5 n2 c aP i cP),(Dw c aP i cP z)]
end
theorem of_yes(w:World)(c:Ai)(hc:Ai.ok Any w c)(hok:FQ c=true):Calls Tryz.prog 136 #[.agg (Ai.arr c)] w fun e w'=>∃ L:IE,e = .returned (.tuple #[.agg (IE.arr L),.int .i64 0])∧IsLay c L∧IE.ok (New w.heap.size) w' L∧LayOwn w.heap.size w' L∧BH (fun _=>False) w w':=by
 obtain⟨z,hz⟩:∃ z,z=w.heap.size:=⟨_,rfl⟩
 refine BA (args:=[.agg (Ai.arr c)]) 148 ⟨w,z,[(Ak w)]⟩ Tryz.func136 rfl (by kernel_rfl) (by kernel_rfl) (En hz) ?_
 have hfine:=fine_of hok;have hkn:=hfine.kn;have hpn:=hfine.pn;have hcn:=hfine.cn
 refine Cc [0] [(0,.agg (Ai.arr c))] ?_
 refine q_c 7 1 [] [[o0,o0,o0],[(an 7 1)]] [Qb z,Qb z,Qb z,Qb z,Qb z,Qb z,Qb z] [(1,pt z),(Bo z),(16,.agg (Ai.arr c))] ⟨w,z+2,[(Ak w),(Ci c z),(Cj z)]⟩ rfl ⟨rfl,rfl,rfl,rfl,rfl,rfl,rfl,Ae⟩ ?_
 refine BV 145 #[.agg (Ai.arr c)] (some 17) (.bool true) (fun w1 hw1=>can_yes w1 c (hc.ext (hw1.ext rfl) (fun _ h=>h)) hok) (fun n2 (hn3:z+2≤n2) => ?_)
 refine Bv 7 3 [0] [[o0],[o0,(a1 1),(ov (i6 (c.Kernel*16)))]] [Qb z,Wr ((c.Kernel:Int)*16) (c.Kernel*16)] [(1,pt z),(Bo z),(22,i6 (c.Kernel*16))] rfl ⟨rfl,Dk,Ae⟩ ?_
 refine l_call [] [] 146 #[i6 (c.Kernel*16)] (some 23) Ae ?_
 intro w4 hw4
 refine BA (args:=[i6 (c.Kernel*16)]) 4 ⟨w,n2,[(Ak w),(Ci c z),(Cj z)]⟩ Tryz.func146 rfl (by kernel_rfl) (by kernel_rfl) hw4 ?_
 refine q_c 9 0 [] [[o0,o0],[o0,o0]] [] [(2,.func (.func 157) #[] #[pt n2])] ⟨w,n2+1,[(Ak w),(Ci c z),(Cj z),(bk n2 #[i6 (c.Kernel*16)] 3)]⟩ rfl Ae ?_
 refine AP [] [] (.func (.func 157) #[] #[pt n2]) Ae ?_
 intro w5 hw5
 refine⟨_,_,rfl,hw5, ?_⟩
 refine Bv 4 1 [] [[o0],[o0]] [] [(1,pt z),(Bo z),(BZ n2),(24,.func (.func 157) #[] #[pt n2])] rfl Ae ?_
 refine l_call [] [] 157 #[i6 2,pt n2] (some 25) Ae ?_
 intro w6 hw6
 refine BA (args:=[i6 2,pt n2]) 10 ⟨w,n2+1,[(Ak w),(Ci c z),(Cj z),(bk n2 #[i6 (c.Kernel*16)] 3)]⟩ Tryz.func157 rfl (by kernel_rfl) (by kernel_rfl) hw6 ?_
 refine q_c 17 0 [] [[o0],[(a1 3),o0],[(a1 3),o0,(ov (i6 ((c.Kernel*16)+2))),(a1 3)],[o0,o0]] [Qb n2,Qb n2,Wr ((c.Kernel*16:Int)+2) ((c.Kernel*16)+2),Qb n2] [(3,i6 (c.Kernel*16))] ⟨w,n2+1,[(Ak w),(Ci c z),(Cj z),(bk n2 #[i6 ((c.Kernel*16)+2)] 3)]⟩ rfl ⟨rfl,rfl,Dk,rfl,Ae⟩ ?_
 refine AP [] [] (i6 (c.Kernel*16)) Ae ?_
 intro w7 hw7
 refine⟨_,_,rfl,hw7, ?_⟩
 refine EG 8 0 [] [[o0,o0,(an 4 4)],[o0,(a1 1),o0,o0]] [Qb (n2+1),Qb (n2+1),Qb (n2+1),Qb (n2+1),Qb z] [(1,pt z),(Bo z),(BZ n2),(BD n2),(Ff c),(30,i6 0)] ⟨w,n2+2,[(Ak w),(Ci c z),(Cj z),(bk n2 #[i6 ((c.Kernel*16)+2)] 3),(bk (n2+1) #[i6 (c.Kernel*16),.slice none 0 0,.slice none 0 0,i6 0] 172)]⟩ rfl ⟨rfl,rfl,rfl,rfl,rfl,Ae⟩ ?_
 refine N8 z 203 5 BJ.cells ?_
 refine DI (fun m a w'=>∃ (n9:Nat) (i:Nat) (aP:Option Addr) (cP:Nat),m=c.Ac.xs.length - i∧n2+2≤n9∧(i≤c.Ac.xs.length)∧St 148 [(1,pt z),(Bo z),(BZ n2),(BD n2),(Ff c),(30,Aa i)] [] ⟨w,n9,(Io n2 c aP i cP z w)⟩ a w') (c.Ac.xs.length - 0) ?_ ?_
 ·intro a w' hs;exact⟨(n2+2),0,none,0,rfl,Nat.le_refl _,Nat.zero_le _,by(try dsimp only[G5,Cj,Ci,Dw,BZ,Ff,BD,Bo,Io]at hs ⊢);rw[show Ei c 0=(c.Kernel*16)+2 from by unfold Ei;omega];exact hs⟩
 rintro m a w' ⟨n9,i,aP,cP,rfl,hn8,hki,hs⟩
 refine(?_:G Tryz.prog 148 [(1,pt z),(Bo z),(BZ n2),(BD n2),(Ff c),(30,Aa i)] [] ⟨w,n9,(Io n2 c aP i cP z w)⟩ _ _ _) a w' hs
 clear hs a w'
 have hpA:Ei c i=c.Kernel*16+2+24*(i:Int):=rfl
 have hpl0:(Ib c i).length=i:=Xc
 refine Dl ?_
 by_cases h10:(i:Int)<(c.Ac.xs.length:Int)
 ·refine A8 9 0 [1] [[oT]] [BT ((i:Int)<(c.Ac.xs.length:Int))] [(1,pt z),(Bo z),(BZ n2),(BD n2),(Ff c),(30,Aa i),(31,.bool true)] rfl ⟨bt,Ae⟩ ?_
  refine DK 12 [0,1,2,4] [(Ak w),(Ci c z),(Cj z),(G5 n2 c aP i cP)] rfl rfl ?_
  refine CP [(0,o0),(1,(a1 3)),(2,o0),(4,o0),(6,o0)] [1,2,4,5,29,30,33,34,36,38] [Qb (n2+1)] [true,true,true,false,true,false,true,false,false,false,false,false,false] [(1,pt z),(Bo z),(BZ n2),(BD n2),(Ff c),(30,Aa i),(QZ c aP i cP),(34,.func (.func 157) #[] #[pt n2]),(36,.func (.func 157) #[] #[pt n2]),(38,.func (.func 157) #[] #[pt n2])] ⟨rfl,Ae⟩ ?_
  refine AV 3 ?_
  refine Ik [] [] 157 #[i6 2,pt n2] (some 35) (by as_aux_lemma=>kernel_rfl) rfl rfl Ae ?_
  intro w11 hw11
  refine BA (args:=[i6 2,pt n2]) 10 ⟨w,n9,(Io n2 c aP i cP z w)⟩ Tryz.func157 rfl (by kernel_rfl) (by kernel_rfl) hw11 ?_
  refine q_c 17 0 [] [[o0],[(a1 3),o0],[(a1 3),o0,(ov (i6 ((Ei c i)+2))),(a1 3)],[o0,o0]] [Qb n2,Qb n2,Wr ((Ei c i:Int)+2) ((Ei c i)+2),Qb n2] [(3,i6 (Ei c i))] ⟨w,n9,[(Ak w),(Ci c z),(Cj z),(bk n2 #[i6 ((Ei c i)+2)] 3),(G5 n2 c aP i cP),(Dw c aP i cP z)]⟩ rfl ⟨rfl,rfl,Dk,rfl,Ae⟩ ?_
  refine AP [] [] (i6 (Ei c i)) Ae ?_
  intro w12 hw12
  have hs13:=hw12
  refine⟨_,_,rfl,hs13,.inr (fun c hc=>hs13.all c (by first | exact hc | exact Cm (is:=[0,1,2,4]) rfl c hc)), ?_⟩
  refine CB [1,2,4,5,29,30,33,36,38,35] [(1,pt z),(Bo z),(BZ n2),(BD n2),(Ff c),(30,Aa i),(QZ c aP i cP),(36,.func (.func 157) #[] #[pt n2]),(38,.func (.func 157) #[] #[pt n2]),(35,i6 (Ei c i))] ?_
  refine AV 5 ?_
  refine Ik [] [] 157 #[i6 17,pt n2] (some 37) (by as_aux_lemma=>kernel_rfl) rfl rfl Ae ?_
  intro w14 hw14
  refine BA (args:=[i6 17,pt n2]) 10 ⟨w,n9,[(Ak w),(Ci c z),(Cj z),(bk n2 #[i6 ((Ei c i)+2)] 3),(G5 n2 c aP i cP),(Dw c aP i cP z)]⟩ Tryz.func157 rfl (by kernel_rfl) (by kernel_rfl) hw14 ?_
  refine q_c 17 0 [] [[o0],[(a1 3),o0],[(a1 3),o0,(ov (i6 (((Ei c i)+2)+17))),(a1 3)],[o0,o0]] [Qb n2,Qb n2,Wr (((Ei c i)+2:Int)+17) (((Ei c i)+2)+17),Qb n2] [(3,i6 ((Ei c i)+2))] ⟨w,n9,[(Ak w),(Ci c z),(Cj z),(bk n2 #[i6 (((Ei c i)+2)+17)] 3),(G5 n2 c aP i cP),(Dw c aP i cP z)]⟩ rfl ⟨rfl,rfl,Dk,rfl,Ae⟩ ?_
  refine AP [] [] (i6 ((Ei c i)+2)) Ae ?_
  intro w15 hw15
  have hs16:=hw15
  refine⟨_,_,rfl,hs16,.inr (fun c hc=>hs16.all c (by first | exact hc | exact Cm (is:=[0,1,2,4]) rfl c hc)), ?_⟩
  refine CB [1,2,4,5,29,30,33,38,35,37] [(1,pt z),(Bo z),(BZ n2),(BD n2),(Ff c),(30,Aa i),(QZ c aP i cP),(38,.func (.func 157) #[] #[pt n2]),(35,i6 (Ei c i)),(37,i6 ((Ei c i)+2))] ?_
  refine AV 7 ?_
  refine Ik [] [] 157 #[i6 5,pt n2] (some 39) (by as_aux_lemma=>kernel_rfl) rfl rfl Ae ?_
  intro w17 hw17
  refine BA (args:=[i6 5,pt n2]) 10 ⟨w,n9,[(Ak w),(Ci c z),(Cj z),(bk n2 #[i6 (((Ei c i)+2)+17)] 3),(G5 n2 c aP i cP),(Dw c aP i cP z)]⟩ Tryz.func157 rfl (by kernel_rfl) (by kernel_rfl) hw17 ?_
  refine q_c 17 0 [] [[o0],[(a1 3),o0],[(a1 3),o0,(ov (i6 ((((Ei c i)+2)+17)+5))),(a1 3)],[o0,o0]] [Qb n2,Qb n2,Wr ((((Ei c i)+2)+17:Int)+5) ((((Ei c i)+2)+17)+5),Qb n2] [(3,i6 (((Ei c i)+2)+17))] ⟨w,n9,[(Ak w),(Ci c z),(Cj z),(QY n2 c i),(G5 n2 c aP i cP),(Dw c aP i cP z)]⟩ rfl ⟨rfl,rfl,Dk,rfl,Ae⟩ ?_
  refine AP [] [] (i6 (((Ei c i)+2)+17)) Ae ?_
  intro w18 hw18
  have hs19:=hw18
  refine⟨_,_,rfl,hs19,.inr (fun c hc=>hs19.all c (by first | exact hc | exact Cm (is:=[0,1,2,4]) rfl c hc)), ?_⟩
  refine CB [1,2,4,5,29,30,33,35,37,39] [(1,pt z),(Bo z),(BZ n2),(BD n2),(Ff c),(30,Aa i),(QZ c aP i cP),(35,i6 (Ei c i)),(37,i6 ((Ei c i)+2)),(39,i6 (((Ei c i)+2)+17))] ?_
  refine CP [(8,o0)] [1,2,4,5,29,30,33,40] [] (Dy 9 4) [(1,pt z),(Bo z),(BZ n2),(BD n2),(Ff c),(30,Aa i),(QZ c aP i cP),(40,.agg #[i6 (Ei c i),i6 ((Ei c i)+2),i6 (((Ei c i)+2)+17),i6 0,.slice none 0 0])] Ae ?_
  refine AV 9 ?_
  refine Bi o0 [1,2,4,5,29,30,33,41] [] [(1,pt z),(Bo z),(BZ n2),(BD n2),(Ff c),(30,Aa i),(QZ c aP i cP),(41,.slice (some ⟨n9,0,none⟩) 1 1)] ⟨w,n9+1,[(Ak w),(Ci c z),(Cj z),(QY n2 c i),(G5 n2 c aP i cP),(Dw c aP i cP z),(WQ c i n9)]⟩ [0,1,2,4] Ae (.inr rfl) ?_
  refine AV 10 ?_
  refine Xt z 5 6 (Ib c i) [(⟨Ei c i,(Ei c i)+2,((Ei c i)+2)+17,0,(⟨none,0,[]⟩:Sl Int)⟩:BJ)] BJ.cells 203 5 56 (.slice aP ((Ib c i).length) cP) n9 1 1 #[i6 (Ei c i),i6 ((Ei c i)+2),i6 (((Ei c i)+2)+17),i6 0,.slice none 0 0] 203 (0,0) true (some 42) [0,1,2,4] (by simp only[List.length_cons,List.length_nil];omega) (show z≤n9+1 by omega) (.inr ⟨rfl,rfl⟩) (fun ax20 cp21 n22 (hn23:n9+1≤n22) => ?_)
  refine CB [1,2,4,5,29,30,42] [(1,pt z),(Bo z),(BZ n2),(BD n2),(Ff c),(30,Aa i),(X6 c i ax20 cp21)] ?_
  refine CP [(11,o0)] [1,2,4,5,29,30,42,43] [] (Dy 12 1) [(1,pt z),(Bo z),(BZ n2),(BD n2),(Ff c),(30,Aa i),(X6 c i ax20 cp21),(43,.pointer (some ⟨n2+1,1,none⟩))] Ae ?_
  refine AV 12 ?_
  refine Bi (a1 4) [1,2,4,5,29,30] [Qb (n2+1)] [(1,pt z),(Bo z),(BZ n2),(BD n2),(Ff c),(30,Aa i)] ⟨w,n22,[(Ak w),(Ci c z),(Cj z),(QY n2 c i),(WL n2 c i ax20 cp21),(UO c i ax20 cp21 z),(WQ c i n9)]⟩ [] ⟨rfl,Ae⟩ (.inl rfl) ?_
  refine D9 13 [0,1,2,3,4,5,6] [(Ak w),(Ci c z),(Cj z),(QY n2 c i),(WL n2 c i ax20 cp21),(UO c i ax20 cp21 z),(WQ c i n9)] rfl rfl ?_
  refine CQ ?_
  refine Nl 4 0 [] [[(ov (i6 ((i+1:Nat):Int))),o0]] [Wr ((i:Int)+1) (((i+1:Nat):Int))] [(1,pt z),(Bo z),(BZ n2),(BD n2),(Ff c),(30,i6 ((i+1:Nat):Int))] rfl ⟨Dk,Ae⟩ ?_
  refine C9 [0,1,2,3,4,5] [(Ak w),(Ci c z),(Cj z),(QY n2 c i),(WL n2 c i ax20 cp21),(UO c i ax20 cp21 z)] rfl rfl ?_
  refine Cb [1,2,4,5,29,30] [(1,pt z),(Bo z),(BZ n2),(BD n2),(Ff c),(30,i6 ((i+1:Nat):Int))] ?_
  refine CS (fun a w' hs=>⟨c.Ac.xs.length - (i+1),by omega,n22,(i+1),ax20,cp21,rfl,by omega,by omega,by(try dsimp only[WL,WQ,G5,Cj,QY,Ci,UO,Dw,X6,BZ,Ff,QZ,BD,Bo,Io]at hs ⊢);rw[show Ei c (i+1)=(((Ei c i)+2)+17)+5 from by unfold Ei;omega,Za9];exact hs⟩)
 refine A8 16 0 [0] [[oF],[o0,(a1 1),o0,o0]] [BF ((i:Int)<(c.Ac.xs.length:Int)),Qb z] [(1,pt z),(Bo z),(BZ n2),(BD n2),(Iq c),(CW c),(48,i6 0)] rfl ⟨bf,rfl,Ae⟩ ?_
 refine Rx z 205 3 DC.cells ?_
 refine N8 z 194 5 Di.cells ?_
 refine DI (fun m a w'=>∃ (n25:Nat) (k:Nat) (csG:List Di) (aC:Option Addr) (cC:Nat),m=c.Aj.xs.length - k∧n9≤n25∧(k≤c.Aj.xs.length)∧(csG.length=k)∧(∀ q,q<k→∃ a cp,gd csG q=Gv c q ⟨a,cp,EQ c q (JQ c q)⟩)∧St 148 [(1,pt z),(Bo z),(BZ n2),(BD n2),(Iq c),(CW c),(48,Aa k)] [] ⟨w,n25,(I5 n2 c aP i cP csG k aC cC z w)⟩ a w') (c.Aj.xs.length - 0) ?_ ?_
 ·intro a w' hs;exact⟨n9,0,([]),none,0,rfl,Nat.le_refl _,Nat.zero_le _,rfl,fun q hq=>absurd hq (Nat.not_lt_zero q),by(try dsimp only[WL,WQ,Eu,G5,Cj,QY,EK,Ci,UO,Dw,Dq,Dn,X6,Iq,BZ,Ff,CW,BD,Bo,I5,Io]at hs ⊢);rw[show DV c 0=Ei c i from by rw[show i=c.Ac.xs.length by omega];rfl];exact hs⟩
 rintro m a w' ⟨n25,k,csG,aC,cC,rfl,hn24,hkk,hcl,hcs,hs⟩
 refine(?_:G Tryz.prog 148 [(1,pt z),(Bo z),(BZ n2),(BD n2),(Iq c),(CW c),(48,Aa k)] [] ⟨w,n25,(I5 n2 c aP i cP csG k aC cC z w)⟩ _ _ _) a w' hs
 clear hs a w'
 have hcb:=Zf hfine k (by omega)
 have hp0:Ei c c.Ac.xs.length=c.Kernel*16+2+24*(c.Ac.xs.length:Int):=rfl
 refine Dl ?_
 by_cases h26:(k:Int)<(c.Aj.xs.length:Int)
 ·refine A8 10 0 [1] [[oT]] [BT ((k:Int)<(c.Aj.xs.length:Int))] [(1,pt z),(Bo z),(BZ n2),(BD n2),(Iq c),(CW c),(48,Aa k),(49,.bool true)] rfl ⟨bt,Ae⟩ ?_
  obtain⟨b27,o28,ha29,hF31,hc30⟩:=(hc.Aj).1.all (show 0<c.Aj.xs.length by omega)
  replace ha29:c.Aj.a=some ⟨b27,o28,none⟩:=ha29
  refine J4 [(1,pt z),(Bo z),(BZ n2),(BD n2),(Dh c b27 o28),(CW c),(48,Aa k),(49,.bool true)] (by(try dsimp only[Eu,G5,Cj,EK,Ci,Dw,Dq,Dn,Dh,Iq,BZ,Ff,CW,BD,Bo,I5,Io]);simp only[ha29]) ?_
  have hc32:=hc30 k (show k<c.Aj.xs.length by omega)
  have he33:=(hc.Aj).2 k (show k<c.Aj.xs.length by omega)
  obtain⟨y34,hy34⟩:∃ y_,y_=gd c.Aj.xs k:=⟨_,rfl⟩
  rw[←hy34]at he33 hc32
  have hEd:=hfine.dests (k:=k) (by omega);have hsb:=Uj y34;have hpb:=Zr y34;have hlb:=cLen_bd hfine (show k<c.Aj.xs.length by omega);have hEn:JQ c k=(Dc c (k:Int) false).length:=rfl
  refine q_c 5 2 [] [[o0,(oi k),(ol 0 (AQ.arr y34)),o0,o0,(an 3 8)],[(an 7 1),o0]] [Ea k,k<c.Aj.xs.length,Ec,Hu w b27 (o28+k*3) (AQ.arr y34),Qb n25,Qb n25,Qb n25,Qb z,Qb z,Qb z,Qb z,Qb z,Qb z,Qb z] [(1,pt z),(Bo z),(BZ n2),(BD n2),(Dh c b27 o28),(CW c),(48,Aa k),(Du n25),(54,.agg (Ai.arr c)),(55,Aa k)] ⟨w,n25+1,[(Ak w),(Ci c z),(Cj z),(EK n2 c k),(Eu n2 c aP i cP csG aC cC),(Dw c aP i cP z),(Dn csG z),(Dq csG aC cC z),(Ee y34 n25)]⟩ rfl ⟨rfl,(by omega),rfl,EE hc32,rfl,rfl,rfl,rfl,rfl,rfl,rfl,rfl,rfl,rfl,Ae⟩ ?_
  refine l_call [] [] 147 #[.agg (Ai.arr c),Aa k] (some 56) Ae ?_
  intro w35 hw35
  refine(Qo w35 c (k:Int) (hc.ext (hw35.ext rfl) (fun _ h=>h)) (by omega) (fun i hi=>Sv (hfine.parts i hi))).mono ?_
  rintro e w36 ⟨ax37,cp38,ax39,cp40,rfl,hSw36,hDw36,hkw36⟩
  have hnw36:n25+1≤w36.heap.size:=AY hw35 hkw36
  rw[hw35.size]at hSw36 hDw36
  refine⟨_,_,rfl,hw35.KZ hkw36, ?_⟩
  refine Bv 3 0 [] [[o0,o0,o0,o0,o0]] [] [(1,pt z),(Bo z),(BZ n2),(BD n2),(Dh c b27 o28),(CW c),(48,Aa k),(Du n25),(8,.slice ax37 ((Dc c (k:Int) true).length) cp38),(Eh c k cp40 ax39)] rfl Ae ?_
  obtain⟨b41,o42,ha43,hF45,hc44⟩:=((⟨hSw36,VL hfine⟩:GU Gg.cells 2 Gg.ok _ _ _)).1.all (show 0<(Dc c (k:Int) true).length by omega)
  replace ha43:ax37=some ⟨b41,o42,none⟩:=ha43
  refine J4 [(1,pt z),(Bo z),(BZ n2),(BD n2),(Dh c b27 o28),(CW c),(48,Aa k),(Du n25),(8,.slice (some ⟨b41,o42,none⟩) ((Dc c (k:Int) true).length) cp38),(Eh c k cp40 ax39)] (by(try dsimp only[Eu,G5,Cj,EK,Ee,Ci,Dw,Dq,Dn,Dh,Iq,BZ,Eh,Ff,CW,BD,Bo,Du,I5,Io]);simp only[ha43]) ?_
  have hc46:=hc44 0 (show 0<(Dc c (k:Int) true).length by omega)
  have he47:=((⟨hSw36,VL hfine⟩:GU Gg.cells 2 Gg.ok _ _ _)).2 0 (show 0<(Dc c (k:Int) true).length by omega)
  obtain⟨y48,hy48⟩:∃ y_,y_=gd (⟨ax37,cp38,Dc c (k:Int) true⟩:Sl Gg).xs 0:=⟨_,rfl⟩
  rw[←hy48]at he47 hc46
  refine DK 16 [0,1,2,4,5,6,7,8,9] [(Ak w),(Ci c z),(Cj z),(Eu n2 c aP i cP csG aC cC),(Dw c aP i cP z),(Dn csG z),(Dq csG aC cC z),(Ee y34 n25),(mid (n25+1) w36)] rfl rfl ?_
  refine CP [(0,o0),(2,o0),(3,(an 3 7)),(6,o0),(7,(oi 0)),(8,o0),(9,(oa [.via 8 (i6 y48.partition)])),(10,o0),(11,(oi 0)),(12,o0),(13,(oa [.via 8 (i6 y48.port)]))] [1,2,4,5,46,47,48,7,9,59,61,62,68,72] [Qb n25,Qb n25,Qb n25,(0:Int)=((0:Nat):Int),0<(Dc c (k:Int) true).length,Ec,∀ w',Ch.holds (mid (n25+1) w36) w'→w'.cell? ⟨b41,o42,none⟩=some (i6 y48.partition),(0:Int)=((0:Nat):Int),0<(Dc c (k:Int) true).length,Ec,∀ w',Ch.holds (mid (n25+1) w36) w'→w'.cell? ⟨b41,o42+1,none⟩=some (i6 y48.port)] [true,false,true,true,false,false,true,true,true,true,true,true,true,true,false,false,false] [(1,pt z),(Bo z),(BZ n2),(BD n2),(Dh c b27 o28),(CW c),(48,Aa k),(Du n25),(Eh c k cp40 ax39),(59,.func (.func 157) #[] #[pt n2]),(NY n2),(62,.agg (AQ.arr y34)),(68,i6 y48.partition),(72,i6 y48.port)] ⟨rfl,rfl,rfl,rfl,(by omega),rfl,TL hF45 (hc46 0 _ rfl),rfl,(by omega),rfl,TL hF45 (hc46 1 _ rfl),Ae⟩ ?_
  refine Pi (fun x:{p:Nat×Nat // w36.heap.size≤p.1∧w36.heap.size≤p.2}=>([(1,pt z),(Bo z),(BZ n2),(BD n2),(Dh c b27 o28),(CW c),(48,Aa k),(Du n25),(Eh c k cp40 ax39),(10,pt x.1.2)],⟨w,x.1.1,[(Ak w),(Ci c z),(Cj z),(HY n2 c k y34),(Eu n2 c aP i cP csG aC cC),(Dw c aP i cP z),(Dn csG z),(Dq csG aC cC z),(Ee y34 n25),(mid (n25+1) w36),(.blk x.1.2 (.cells #[i6 (DV c k),i6 ((DV c k)+2),i6 y48.partition,i6 y48.port,.slice none 0 0] 194 (0,0)) true)]⟩)) (fun hK => ?_) ?_
  ·refine IA [1,15] ?_
   refine List.forall_mem_cons.2 ⟨?_,List.forall_mem_cons.2 ⟨?_,fun _ h=>absurd h List.not_mem_nil⟩⟩
   ·refine Ik [] [] 157 #[i6 2,pt n2] (some 60) (by as_aux_lemma=>kernel_rfl) rfl rfl Ae ?_
    intro w51 hw51
    refine BA (args:=[i6 2,pt n2]) 10 ⟨w,w36.heap.size,[(Ak w),(Ci c z),(Cj z),(EK n2 c k),(Eu n2 c aP i cP csG aC cC),(Dw c aP i cP z),(Dn csG z),(Dq csG aC cC z),(Ee y34 n25),(mid (n25+1) w36)]⟩ Tryz.func157 rfl (by kernel_rfl) (by kernel_rfl) hw51 ?_
    refine q_c 17 0 [] [[o0],[(a1 3),o0],[(a1 3),o0,(ov (i6 ((DV c k)+2))),(a1 3)],[o0,o0]] [Qb n2,Qb n2,Wr ((DV c k:Int)+2) ((DV c k)+2),Qb n2] [(3,i6 (DV c k))] ⟨w,w36.heap.size,[(Ak w),(Ci c z),(Cj z),(UG n2 c k),(Eu n2 c aP i cP csG aC cC),(Dw c aP i cP z),(Dn csG z),(Dq csG aC cC z),(Ee y34 n25),(mid (n25+1) w36)]⟩ rfl ⟨rfl,rfl,Dk,rfl,Ae⟩ ?_
    refine AP [] [] (i6 (DV c k)) Ae ?_
    intro w52 hw52
    have hs53:=hw52
    refine⟨_,_,rfl,hs53,.inr (fun c hc=>hs53.all c (by first | exact hc | exact Cm (is:=[0,1,2,4,5,6,7,8,9]) rfl c hc)), ?_⟩
    refine CB [1,2,4,5,46,47,48,7,9,61,62,68,72,60] [(1,pt z),(Bo z),(BZ n2),(BD n2),(Dh c b27 o28),(CW c),(48,Aa k),(Du n25),(Eh c k cp40 ax39),(NY n2),(62,.agg (AQ.arr y34)),(68,i6 y48.partition),(72,i6 y48.port),(60,i6 (DV c k))] ?_
    refine IA [4,15] ?_
    refine List.forall_mem_cons.2 ⟨?_,List.forall_mem_cons.2 ⟨?_,fun _ h=>absurd h List.not_mem_nil⟩⟩
    ·refine Ik [] [] 148 #[.agg (AQ.arr y34)] (some 63) (by as_aux_lemma=>kernel_rfl) rfl rfl Ae ?_
     intro w54 hw54
     refine(OY w54 y34 (he33.ext (hw54.ext rfl) (fun _ h=>h))).mono ?_
     rintro e w55 ⟨rfl,hkw55⟩
     have hnw55:w36.heap.size≤w55.heap.size:=AY hw54 hkw55
     have hs56:=hw54.keeps hkw55
     refine⟨_,_,rfl,hs56,.inr (fun c hc=>hs56.all c (by first | exact hc | exact Cm (is:=[0,1,2,4,5,6,7,8,9]) rfl c hc)), ?_⟩
     refine CB [1,2,4,5,46,47,48,7,9,61,68,72,60,63] [(1,pt z),(Bo z),(BZ n2),(BD n2),(Dh c b27 o28),(CW c),(48,Aa k),(Du n25),(Eh c k cp40 ax39),(NY n2),(68,i6 y48.partition),(72,i6 y48.port),(60,i6 (DV c k)),(63,i6 (CJ y34))] ?_
     refine IA [5,15] ?_
     refine List.forall_mem_cons.2 ⟨?_,List.forall_mem_cons.2 ⟨?_,fun _ h=>absurd h List.not_mem_nil⟩⟩
     ·refine Ik [] [] 157 #[i6 (CJ y34),pt n2] (some 64) (by as_aux_lemma=>kernel_rfl) rfl rfl Ae ?_
      intro w57 hw57
      refine BA (args:=[i6 (CJ y34),pt n2]) 10 ⟨w,w55.heap.size,[(Ak w),(Ci c z),(Cj z),(UG n2 c k),(Eu n2 c aP i cP csG aC cC),(Dw c aP i cP z),(Dn csG z),(Dq csG aC cC z),(Ee y34 n25),(mid (n25+1) w36)]⟩ Tryz.func157 rfl (by kernel_rfl) (by kernel_rfl) hw57 ?_
      refine q_c 17 0 [] [[o0],[(a1 3),o0],[(a1 3),o0,(ov (i6 (((DV c k)+2)+(CJ y34)))),(a1 3)],[o0,o0]] [Qb n2,Qb n2,Wr (((DV c k)+2:Int)+(CJ y34)) (((DV c k)+2)+(CJ y34)),Qb n2] [(3,i6 ((DV c k)+2))] ⟨w,w55.heap.size,[(Ak w),(Ci c z),(Cj z),(HY n2 c k y34),(Eu n2 c aP i cP csG aC cC),(Dw c aP i cP z),(Dn csG z),(Dq csG aC cC z),(Ee y34 n25),(mid (n25+1) w36)]⟩ rfl ⟨rfl,rfl,Dk,rfl,Ae⟩ ?_
      refine AP [] [] (i6 ((DV c k)+2)) Ae ?_
      intro w58 hw58
      have hs59:=hw58
      refine⟨_,_,rfl,hs59,.inr (fun c hc=>hs59.all c (by first | exact hc | exact Cm (is:=[0,1,2,4,5,6,7,8,9]) rfl c hc)), ?_⟩
      refine CB [1,2,4,5,46,47,48,7,9,68,72,60,64] [(1,pt z),(Bo z),(BZ n2),(BD n2),(Dh c b27 o28),(CW c),(48,Aa k),(Du n25),(Eh c k cp40 ax39),(68,i6 y48.partition),(72,i6 y48.port),(60,i6 (DV c k)),(64,i6 ((DV c k)+2))] ?_
      refine CP [(14,o0)] [1,2,4,5,46,47,48,7,9,73] [] (Dy 15 2) [(1,pt z),(Bo z),(BZ n2),(BD n2),(Dh c b27 o28),(CW c),(48,Aa k),(Du n25),(Eh c k cp40 ax39),(Vq c k y48)] Ae ?_
      refine AV 15 ?_
      refine Bi o0 [1,2,4,5,46,47,48,7,9,73,10] [] [(1,pt z),(Bo z),(BZ n2),(BD n2),(Dh c b27 o28),(CW c),(48,Aa k),(Du n25),(Eh c k cp40 ax39),(Vq c k y48),(PG w55)] ⟨w,w55.heap.size+1,[(Ak w),(Ci c z),(Cj z),(HY n2 c k y34),(Eu n2 c aP i cP csG aC cC),(Dw c aP i cP z),(Dn csG z),(Dq csG aC cC z),(Ee y34 n25),(mid (n25+1) w36),(Xh w55)]⟩ [0,1,2,4,5,6,7,8,9] Ae (.inr rfl) ?_
      refine AV 16 ?_
      refine Bi (an 5 10) [1,2,4,5,46,47,48,7,9,10] [Qb w55.heap.size,Qb w55.heap.size,Qb w55.heap.size,Qb w55.heap.size,Qb w55.heap.size] [(1,pt z),(Bo z),(BZ n2),(BD n2),(Dh c b27 o28),(CW c),(48,Aa k),(Du n25),(Eh c k cp40 ax39),(PG w55)] ⟨w,w55.heap.size+1,(SX n2 c aP i cP csG k y48 w55 w36 aC cC z y34 n25 w)⟩ [] ⟨rfl,rfl,rfl,rfl,rfl,Ae⟩ (.inl rfl) ?_
      refine D9 17 [0,1,2,3,4,5,6,7,8,9,10] (SX n2 c aP i cP csG k y48 w55 w36 aC cC z y34 n25 w) rfl rfl ?_
      refine CQ ?_
      refine Cb [1,2,4,5,46,47,48,7,9,10] [(1,pt z),(Bo z),(BZ n2),(BD n2),(Dh c b27 o28),(CW c),(48,Aa k),(Du n25),(Eh c k cp40 ax39),(PG w55)] ?_
      refine C9 [0,1,2,3,4,5,6,7,8,9,10] (SX n2 c aP i cP csG k y48 w55 w36 aC cC z y34 n25 w) rfl rfl ?_
      exact hK ⟨(w55.heap.size+1,w55.heap.size),by first | omega | (dsimp only;omega)⟩
     refine Bi o0 [1,2,4,5,46,47,48,7,9,61,68,72,60,63,10] [] [(1,pt z),(Bo z),(BZ n2),(BD n2),(Dh c b27 o28),(CW c),(48,Aa k),(Du n25),(Eh c k cp40 ax39),(NY n2),(68,i6 y48.partition),(72,i6 y48.port),(60,i6 (DV c k)),(63,i6 (CJ y34)),(PG w55)] ⟨w,w55.heap.size+1,[(Ak w),(Ci c z),(Cj z),(UG n2 c k),(Eu n2 c aP i cP csG aC cC),(Dw c aP i cP z),(Dn csG z),(Dq csG aC cC z),(Ee y34 n25),(mid (n25+1) w36),(Xh w55)]⟩ [0,1,2,4,5,6,7,8,9] Ae (.inr rfl) ?_
     refine AV 5 ?_
     refine Ik [] [] 157 #[i6 (CJ y34),pt n2] (some 64) (by as_aux_lemma=>kernel_rfl) rfl rfl Ae ?_
     intro w60 hw60
     refine BA (args:=[i6 (CJ y34),pt n2]) 10 ⟨w,w55.heap.size+1,[(Ak w),(Ci c z),(Cj z),(UG n2 c k),(Eu n2 c aP i cP csG aC cC),(Dw c aP i cP z),(Dn csG z),(Dq csG aC cC z),(Ee y34 n25),(mid (n25+1) w36),(Xh w55)]⟩ Tryz.func157 rfl (by kernel_rfl) (by kernel_rfl) hw60 ?_
     refine q_c 17 0 [] [[o0],[(a1 3),o0],[(a1 3),o0,(ov (i6 (((DV c k)+2)+(CJ y34)))),(a1 3)],[o0,o0]] [Qb n2,Qb n2,Wr (((DV c k)+2:Int)+(CJ y34)) (((DV c k)+2)+(CJ y34)),Qb n2] [(3,i6 ((DV c k)+2))] ⟨w,w55.heap.size+1,[(Ak w),(Ci c z),(Cj z),(HY n2 c k y34),(Eu n2 c aP i cP csG aC cC),(Dw c aP i cP z),(Dn csG z),(Dq csG aC cC z),(Ee y34 n25),(mid (n25+1) w36),(Xh w55)]⟩ rfl ⟨rfl,rfl,Dk,rfl,Ae⟩ ?_
     refine AP [] [] (i6 ((DV c k)+2)) Ae ?_
     intro w61 hw61
     have hs62:=hw61
     refine⟨_,_,rfl,hs62,.inr (fun c hc=>hs62.all c (by first | exact hc | exact Cm (is:=[0,1,2,4,5,6,7,8,9]) rfl c hc)), ?_⟩
     refine CB [1,2,4,5,46,47,48,7,9,68,72,60,10,64] [(1,pt z),(Bo z),(BZ n2),(BD n2),(Dh c b27 o28),(CW c),(48,Aa k),(Du n25),(Eh c k cp40 ax39),(68,i6 y48.partition),(72,i6 y48.port),(60,i6 (DV c k)),(PG w55),(64,i6 ((DV c k)+2))] ?_
     refine CP [(14,o0)] [1,2,4,5,46,47,48,7,9,10,73] [] (Dy 16 1) [(1,pt z),(Bo z),(BZ n2),(BD n2),(Dh c b27 o28),(CW c),(48,Aa k),(Du n25),(Eh c k cp40 ax39),(PG w55),(Vq c k y48)] Ae ?_
     refine AV 16 ?_
     refine Bi (an 5 10) [1,2,4,5,46,47,48,7,9,10] [Qb w55.heap.size,Qb w55.heap.size,Qb w55.heap.size,Qb w55.heap.size,Qb w55.heap.size] [(1,pt z),(Bo z),(BZ n2),(BD n2),(Dh c b27 o28),(CW c),(48,Aa k),(Du n25),(Eh c k cp40 ax39),(PG w55)] ⟨w,w55.heap.size+1,(SX n2 c aP i cP csG k y48 w55 w36 aC cC z y34 n25 w)⟩ [] ⟨rfl,rfl,rfl,rfl,rfl,Ae⟩ (.inl rfl) ?_
     refine D9 17 [0,1,2,3,4,5,6,7,8,9,10] (SX n2 c aP i cP csG k y48 w55 w36 aC cC z y34 n25 w) rfl rfl ?_
     refine CQ ?_
     refine Cb [1,2,4,5,46,47,48,7,9,10] [(1,pt z),(Bo z),(BZ n2),(BD n2),(Dh c b27 o28),(CW c),(48,Aa k),(Du n25),(Eh c k cp40 ax39),(PG w55)] ?_
     refine C9 [0,1,2,3,4,5,6,7,8,9,10] (SX n2 c aP i cP csG k y48 w55 w36 aC cC z y34 n25 w) rfl rfl ?_
     exact hK ⟨(w55.heap.size+1,w55.heap.size),by first | omega | (dsimp only;omega)⟩
    refine Bi o0 [1,2,4,5,46,47,48,7,9,61,62,68,72,60,10] [] [(1,pt z),(Bo z),(BZ n2),(BD n2),(Dh c b27 o28),(CW c),(48,Aa k),(Du n25),(Eh c k cp40 ax39),(NY n2),(62,.agg (AQ.arr y34)),(68,i6 y48.partition),(72,i6 y48.port),(60,i6 (DV c k)),(KX w36)] ⟨w,w36.heap.size+1,(Xi n2 c aP i cP csG k w36 aC cC z y34 n25 w)⟩ [0,1,2,4,5,6,7,8,9] Ae (.inr rfl) ?_
    refine AV 4 ?_
    refine Ik [] [] 148 #[.agg (AQ.arr y34)] (some 63) (by as_aux_lemma=>kernel_rfl) rfl rfl Ae ?_
    intro w63 hw63
    refine(OY w63 y34 (he33.ext (hw63.ext rfl) (fun _ h=>h))).mono ?_
    rintro e w64 ⟨rfl,hkw64⟩
    have hnw64:w36.heap.size+1≤w64.heap.size:=AY hw63 hkw64
    have hs65:=hw63.keeps hkw64
    refine⟨_,_,rfl,hs65,.inr (fun c hc=>hs65.all c (by first | exact hc | exact Cm (is:=[0,1,2,4,5,6,7,8,9]) rfl c hc)), ?_⟩
    refine CB [1,2,4,5,46,47,48,7,9,61,68,72,60,10,63] [(1,pt z),(Bo z),(BZ n2),(BD n2),(Dh c b27 o28),(CW c),(48,Aa k),(Du n25),(Eh c k cp40 ax39),(NY n2),(68,i6 y48.partition),(72,i6 y48.port),(60,i6 (DV c k)),(KX w36),(63,i6 (CJ y34))] ?_
    refine AV 5 ?_
    refine Ik [] [] 157 #[i6 (CJ y34),pt n2] (some 64) (by as_aux_lemma=>kernel_rfl) rfl rfl Ae ?_
    intro w66 hw66
    refine BA (args:=[i6 (CJ y34),pt n2]) 10 ⟨w,w64.heap.size,(Xi n2 c aP i cP csG k w36 aC cC z y34 n25 w)⟩ Tryz.func157 rfl (by kernel_rfl) (by kernel_rfl) hw66 ?_
    refine q_c 17 0 [] [[o0],[(a1 3),o0],[(a1 3),o0,(ov (i6 (((DV c k)+2)+(CJ y34)))),(a1 3)],[o0,o0]] [Qb n2,Qb n2,Wr (((DV c k)+2:Int)+(CJ y34)) (((DV c k)+2)+(CJ y34)),Qb n2] [(3,i6 ((DV c k)+2))] ⟨w,w64.heap.size,[(Ak w),(Ci c z),(Cj z),(HY n2 c k y34),(Eu n2 c aP i cP csG aC cC),(Dw c aP i cP z),(Dn csG z),(Dq csG aC cC z),(Ee y34 n25),(mid (n25+1) w36),(UU w36)]⟩ rfl ⟨rfl,rfl,Dk,rfl,Ae⟩ ?_
    refine AP [] [] (i6 ((DV c k)+2)) Ae ?_
    intro w67 hw67
    have hs68:=hw67
    refine⟨_,_,rfl,hs68,.inr (fun c hc=>hs68.all c (by first | exact hc | exact Cm (is:=[0,1,2,4,5,6,7,8,9]) rfl c hc)), ?_⟩
    refine CB [1,2,4,5,46,47,48,7,9,68,72,60,10,64] [(1,pt z),(Bo z),(BZ n2),(BD n2),(Dh c b27 o28),(CW c),(48,Aa k),(Du n25),(Eh c k cp40 ax39),(68,i6 y48.partition),(72,i6 y48.port),(60,i6 (DV c k)),(KX w36),(64,i6 ((DV c k)+2))] ?_
    refine CP [(14,o0)] [1,2,4,5,46,47,48,7,9,10,73] [] (Dy 16 1) [(1,pt z),(Bo z),(BZ n2),(BD n2),(Dh c b27 o28),(CW c),(48,Aa k),(Du n25),(Eh c k cp40 ax39),(KX w36),(Vq c k y48)] Ae ?_
    refine AV 16 ?_
    refine Bi (an 5 10) [1,2,4,5,46,47,48,7,9,10] [Qb w36.heap.size,Qb w36.heap.size,Qb w36.heap.size,Qb w36.heap.size,Qb w36.heap.size] [(1,pt z),(Bo z),(BZ n2),(BD n2),(Dh c b27 o28),(CW c),(48,Aa k),(Du n25),(Eh c k cp40 ax39),(KX w36)] ⟨w,w64.heap.size,(Tm n2 c aP i cP csG k y48 w36 aC cC z y34 n25 w)⟩ [] ⟨rfl,rfl,rfl,rfl,rfl,Ae⟩ (.inl rfl) ?_
    refine D9 17 [0,1,2,3,4,5,6,7,8,9,10] (Tm n2 c aP i cP csG k y48 w36 aC cC z y34 n25 w) rfl rfl ?_
    refine CQ ?_
    refine Cb [1,2,4,5,46,47,48,7,9,10] [(1,pt z),(Bo z),(BZ n2),(BD n2),(Dh c b27 o28),(CW c),(48,Aa k),(Du n25),(Eh c k cp40 ax39),(KX w36)] ?_
    refine C9 [0,1,2,3,4,5,6,7,8,9,10] (Tm n2 c aP i cP csG k y48 w36 aC cC z y34 n25 w) rfl rfl ?_
    exact hK ⟨(w64.heap.size,w36.heap.size),by first | omega | (dsimp only;omega)⟩
   refine Bi o0 [1,2,4,5,46,47,48,7,9,59,61,62,68,72,10] [] [(1,pt z),(Bo z),(BZ n2),(BD n2),(Dh c b27 o28),(CW c),(48,Aa k),(Du n25),(Eh c k cp40 ax39),(59,.func (.func 157) #[] #[pt n2]),(NY n2),(62,.agg (AQ.arr y34)),(68,i6 y48.partition),(72,i6 y48.port),(KX w36)] ⟨w,w36.heap.size+1,[(Ak w),(Ci c z),(Cj z),(EK n2 c k),(Eu n2 c aP i cP csG aC cC),(Dw c aP i cP z),(Dn csG z),(Dq csG aC cC z),(Ee y34 n25),(mid (n25+1) w36),(UU w36)]⟩ [0,1,2,4,5,6,7,8,9] Ae (.inr rfl) ?_
   refine AV 1 ?_
   refine Ik [] [] 157 #[i6 2,pt n2] (some 60) (by as_aux_lemma=>kernel_rfl) rfl rfl Ae ?_
   intro w69 hw69
   refine BA (args:=[i6 2,pt n2]) 10 ⟨w,w36.heap.size+1,[(Ak w),(Ci c z),(Cj z),(EK n2 c k),(Eu n2 c aP i cP csG aC cC),(Dw c aP i cP z),(Dn csG z),(Dq csG aC cC z),(Ee y34 n25),(mid (n25+1) w36),(UU w36)]⟩ Tryz.func157 rfl (by kernel_rfl) (by kernel_rfl) hw69 ?_
   refine q_c 17 0 [] [[o0],[(a1 3),o0],[(a1 3),o0,(ov (i6 ((DV c k)+2))),(a1 3)],[o0,o0]] [Qb n2,Qb n2,Wr ((DV c k:Int)+2) ((DV c k)+2),Qb n2] [(3,i6 (DV c k))] ⟨w,w36.heap.size+1,(Xi n2 c aP i cP csG k w36 aC cC z y34 n25 w)⟩ rfl ⟨rfl,rfl,Dk,rfl,Ae⟩ ?_
   refine AP [] [] (i6 (DV c k)) Ae ?_
   intro w70 hw70
   have hs71:=hw70
   refine⟨_,_,rfl,hs71,.inr (fun c hc=>hs71.all c (by first | exact hc | exact Cm (is:=[0,1,2,4,5,6,7,8,9]) rfl c hc)), ?_⟩
   refine CB [1,2,4,5,46,47,48,7,9,61,62,68,72,10,60] [(1,pt z),(Bo z),(BZ n2),(BD n2),(Dh c b27 o28),(CW c),(48,Aa k),(Du n25),(Eh c k cp40 ax39),(NY n2),(62,.agg (AQ.arr y34)),(68,i6 y48.partition),(72,i6 y48.port),(KX w36),(60,i6 (DV c k))] ?_
   refine AV 4 ?_
   refine Ik [] [] 148 #[.agg (AQ.arr y34)] (some 63) (by as_aux_lemma=>kernel_rfl) rfl rfl Ae ?_
   intro w72 hw72
   refine(OY w72 y34 (he33.ext (hw72.ext rfl) (fun _ h=>h))).mono ?_
   rintro e w73 ⟨rfl,hkw73⟩
   have hnw73:w36.heap.size+1≤w73.heap.size:=AY hw72 hkw73
   have hs74:=hw72.keeps hkw73
   refine⟨_,_,rfl,hs74,.inr (fun c hc=>hs74.all c (by first | exact hc | exact Cm (is:=[0,1,2,4,5,6,7,8,9]) rfl c hc)), ?_⟩
   refine CB [1,2,4,5,46,47,48,7,9,61,68,72,10,60,63] [(1,pt z),(Bo z),(BZ n2),(BD n2),(Dh c b27 o28),(CW c),(48,Aa k),(Du n25),(Eh c k cp40 ax39),(NY n2),(68,i6 y48.partition),(72,i6 y48.port),(KX w36),(60,i6 (DV c k)),(63,i6 (CJ y34))] ?_
   refine AV 5 ?_
   refine Ik [] [] 157 #[i6 (CJ y34),pt n2] (some 64) (by as_aux_lemma=>kernel_rfl) rfl rfl Ae ?_
   intro w75 hw75
   refine BA (args:=[i6 (CJ y34),pt n2]) 10 ⟨w,w73.heap.size,(Xi n2 c aP i cP csG k w36 aC cC z y34 n25 w)⟩ Tryz.func157 rfl (by kernel_rfl) (by kernel_rfl) hw75 ?_
   refine q_c 17 0 [] [[o0],[(a1 3),o0],[(a1 3),o0,(ov (i6 (((DV c k)+2)+(CJ y34)))),(a1 3)],[o0,o0]] [Qb n2,Qb n2,Wr (((DV c k)+2:Int)+(CJ y34)) (((DV c k)+2)+(CJ y34)),Qb n2] [(3,i6 ((DV c k)+2))] ⟨w,w73.heap.size,[(Ak w),(Ci c z),(Cj z),(HY n2 c k y34),(Eu n2 c aP i cP csG aC cC),(Dw c aP i cP z),(Dn csG z),(Dq csG aC cC z),(Ee y34 n25),(mid (n25+1) w36),(UU w36)]⟩ rfl ⟨rfl,rfl,Dk,rfl,Ae⟩ ?_
   refine AP [] [] (i6 ((DV c k)+2)) Ae ?_
   intro w76 hw76
   have hs77:=hw76
   refine⟨_,_,rfl,hs77,.inr (fun c hc=>hs77.all c (by first | exact hc | exact Cm (is:=[0,1,2,4,5,6,7,8,9]) rfl c hc)), ?_⟩
   refine CB [1,2,4,5,46,47,48,7,9,68,72,10,60,64] [(1,pt z),(Bo z),(BZ n2),(BD n2),(Dh c b27 o28),(CW c),(48,Aa k),(Du n25),(Eh c k cp40 ax39),(68,i6 y48.partition),(72,i6 y48.port),(KX w36),(60,i6 (DV c k)),(64,i6 ((DV c k)+2))] ?_
   refine CP [(14,o0)] [1,2,4,5,46,47,48,7,9,10,73] [] (Dy 16 1) [(1,pt z),(Bo z),(BZ n2),(BD n2),(Dh c b27 o28),(CW c),(48,Aa k),(Du n25),(Eh c k cp40 ax39),(KX w36),(Vq c k y48)] Ae ?_
   refine AV 16 ?_
   refine Bi (an 5 10) [1,2,4,5,46,47,48,7,9,10] [Qb w36.heap.size,Qb w36.heap.size,Qb w36.heap.size,Qb w36.heap.size,Qb w36.heap.size] [(1,pt z),(Bo z),(BZ n2),(BD n2),(Dh c b27 o28),(CW c),(48,Aa k),(Du n25),(Eh c k cp40 ax39),(KX w36)] ⟨w,w73.heap.size,(Tm n2 c aP i cP csG k y48 w36 aC cC z y34 n25 w)⟩ [] ⟨rfl,rfl,rfl,rfl,rfl,Ae⟩ (.inl rfl) ?_
   refine D9 17 [0,1,2,3,4,5,6,7,8,9,10] (Tm n2 c aP i cP csG k y48 w36 aC cC z y34 n25 w) rfl rfl ?_
   refine CQ ?_
   refine Cb [1,2,4,5,46,47,48,7,9,10] [(1,pt z),(Bo z),(BZ n2),(BD n2),(Dh c b27 o28),(CW c),(48,Aa k),(Du n25),(Eh c k cp40 ax39),(KX w36)] ?_
   refine C9 [0,1,2,3,4,5,6,7,8,9,10] (Tm n2 c aP i cP csG k y48 w36 aC cC z y34 n25 w) rfl rfl ?_
   exact hK ⟨(w73.heap.size,w36.heap.size),by first | omega | (dsimp only;omega)⟩
  rintro⟨⟨n49,b50⟩,hJ78⟩
  simp only at hJ78
  show E _ _ [(1,pt z),(Bo z),(BZ n2),(BD n2),(Dh c b27 o28),(CW c),(48,Aa k),(Du n25),(Eh c k cp40 ax39),(FC b50)] _ ⟨w,n49,[(Ak w),(Ci c z),(Cj z),(HY n2 c k y34),(Eu n2 c aP i cP csG aC cC),(Dw c aP i cP z),(Dn csG z),(Dq csG aC cC z),(Ee y34 n25),(mid (n25+1) w36),(bk b50 #[i6 (DV c k),i6 ((DV c k)+2),i6 y48.partition,i6 y48.port,.slice none 0 0] 194)]⟩ _ _ _
  refine Nl 7 0 [] [[o0,o0,o0]] [] [(1,pt z),(Bo z),(BZ n2),(BD n2),(Dh c b27 o28),(CW c),(48,Aa k),(Du n25),(FC b50),(IL c k cp40 ax39),(FO c k),(76,i6 0)] rfl Ae ?_
  refine N8 z 205 3 DC.cells ?_
  refine Cc [1,2,4,5,7,10,46,47,48,74,75,76] [(1,pt z),(Bo z),(BZ n2),(BD n2),(Du n25),(FC b50),(Dh c b27 o28),(CW c),(48,Aa k),(IL c k cp40 ax39),(FO c k),(76,i6 0)] ?_
  refine DI (fun m a w'=>∃ (n80:Nat) (j:Nat) (aD:Option Addr) (cD:Nat),m=(Dc c (k:Int) false).length - j∧n49≤n80∧(j≤(Dc c (k:Int) false).length)∧St 148 [(1,pt z),(Bo z),(BZ n2),(BD n2),(Du n25),(FC b50),(Dh c b27 o28),(CW c),(48,Aa k),(IL c k cp40 ax39),(FO c k),(76,Aa j)] [] ⟨w,n80,[(Ak w),(Ci c z),(Cj z),(Il n2 c k j),(Eu n2 c aP i cP csG aC cC),(Dw c aP i cP z),(Dn csG z),(Dq csG aC cC z),(Ee y34 n25),(mid (n25+1) w36),(IC c k y48 aD cD j b50),(Ij c k aD cD j z)]⟩ a w') ((Dc c (k:Int) false).length - 0) ?_ ?_
  ·intro a w' hs;exact⟨n49,0,none,0,rfl,Nat.le_refl _,Nat.zero_le _,by(try dsimp only[IC,Eu,G5,Cj,HY,Il,EK,Ee,Ci,Dw,Ij,Dq,Dn,Dh,FO,Iq,NY,BZ,IL,Eh,Ff,CW,BD,Bo,FC,Du,I5,Io]at hs ⊢);rw[show Me c k 0=((DV c k)+2)+(CJ y34)from by unfold Me;rw[←hy34];omega];exact hs⟩
  rintro m a w' ⟨n80,j,aD,cD,rfl,hn79,hkj,hs⟩
  refine(?_:G Tryz.prog 148 [(1,pt z),(Bo z),(BZ n2),(BD n2),(Du n25),(FC b50),(Dh c b27 o28),(CW c),(48,Aa k),(IL c k cp40 ax39),(FO c k),(76,Aa j)] [] ⟨w,n80,[(Ak w),(Ci c z),(Cj z),(Il n2 c k j),(Eu n2 c aP i cP csG aC cC),(Dw c aP i cP z),(Dn csG z),(Dq csG aC cC z),(Ee y34 n25),(mid (n25+1) w36),(IC c k y48 aD cD j b50),(Ij c k aD cD j z)]⟩ _ _ _) a w' hs
  clear hs a w'
  have hdb:=dAt_bd hfine (show k<c.Aj.xs.length by omega) (show j≤4 by unfold JQ at hEd;omega)
  have hdl:(EQ c k j).length=j:=U9
  refine Dl ?_
  by_cases h81:(j:Int)<(((Dc c (k:Int) false).length:Nat):Int)
  ·refine A8 10 0 [1] [[oT]] [BT ((j:Int)<(((Dc c (k:Int) false).length:Nat):Int))] [(1,pt z),(Bo z),(BZ n2),(BD n2),(Du n25),(FC b50),(Dh c b27 o28),(CW c),(48,Aa k),(IL c k cp40 ax39),(FO c k),(76,Aa j),(77,.bool true)] rfl ⟨bt,Ae⟩ ?_
   obtain⟨b82,o83,ha84,hF86,hc85⟩:=((⟨hDw36,VL hfine⟩:GU Gg.cells 2 Gg.ok _ _ _)).1.all (show 0<(Dc c (k:Int) false).length by omega)
   replace ha84:ax39=some ⟨b82,o83,none⟩:=ha84
   refine J4 [(1,pt z),(Bo z),(BZ n2),(BD n2),(Du n25),(FC b50),(Dh c b27 o28),(CW c),(48,Aa k),(JF c k b82 o83 cp40),(FO c k),(76,Aa j),(77,.bool true)] (by(try dsimp only[IC,Eu,G5,Cj,HY,Il,EK,Ee,Ci,Dw,Ij,Dq,Dn,JF,Dh,FO,Iq,BZ,IL,Eh,Ff,CW,BD,Bo,FC,Du,I5,Io]);simp only[ha84]) ?_
   have hc87:=hc85 j (show j<(Dc c (k:Int) false).length by omega)
   have he88:=((⟨hDw36,VL hfine⟩:GU Gg.cells 2 Gg.ok _ _ _)).2 j (show j<(Dc c (k:Int) false).length by omega)
   obtain⟨y89,hy89⟩:∃ y_,y_=gd (⟨ax39,cp40,Dc c (k:Int) false⟩:Sl Gg).xs j:=⟨_,rfl⟩
   rw[←hy89]at he88 hc87
   refine q_c 3 0 [] [[(oi j),(oa [.via 9 (i6 y89.partition),.via 9 (i6 y89.port)]),o0,(an 2 12)]] [Ea j,j<(Dc c (k:Int) false).length,Ec,∀ w',Ch.holds (mid (n25+1) w36) w'→w'.cell? ⟨b82,o83+j*2,none⟩=some (i6 y89.partition),∀ w',Ch.holds (mid (n25+1) w36) w'→w'.cell? ⟨b82,o83+j*2+1,none⟩=some (i6 y89.port),Qb n80,Qb n80] [(1,pt z),(Bo z),(BZ n2),(BD n2),(Du n25),(FC b50),(Dh c b27 o28),(CW c),(48,Aa k),(JF c k b82 o83 cp40),(FO c k),(76,Aa j),(12,pt n80)] ⟨w,n80+1,[(Ak w),(Ci c z),(Cj z),(Il n2 c k j),(Eu n2 c aP i cP csG aC cC),(Dw c aP i cP z),(Dn csG z),(Dq csG aC cC z),(Ee y34 n25),(mid (n25+1) w36),(IC c k y48 aD cD j b50),(Ij c k aD cD j z),(MZ y89 n80)]⟩ rfl ⟨rfl,(by omega),rfl,TL hF86 (hc87 0 _ rfl),TL hF86 (hc87 1 _ rfl),rfl,rfl,Ae⟩ ?_
   refine DK 14 [0,1,2,4,5,6,7,8,9,10,12] [(Ak w),(Ci c z),(Cj z),(Eu n2 c aP i cP csG aC cC),(Dw c aP i cP z),(Dn csG z),(Dq csG aC cC z),(Ee y34 n25),(mid (n25+1) w36),(IC c k y48 aD cD j b50),(MZ y89 n80)] rfl rfl ?_
   refine CP [(0,o0),(1,(a1 9)),(2,o0),(3,(a1 10)),(4,o0),(5,(a1 10)),(6,o0),(7,(an 3 7))] [1,2,4,5,7,10,46,47,48,74,75,76,81,83,85,86,87] [Qb b50,Qb n80,Qb n80,Qb n25,Qb n25,Qb n25] (Dy 8 7) [(1,pt z),(Bo z),(BZ n2),(BD n2),(Du n25),(FC b50),(Dh c b27 o28),(CW c),(48,Aa k),(JF c k b82 o83 cp40),(FO c k),(76,Aa j),(81,.slice aD ((EQ c k j).length) cD),(83,i6 y89.partition),(85,i6 y89.port),(86,.func (.func 157) #[] #[pt n2]),(87,.agg (AQ.arr y34))] ⟨rfl,rfl,rfl,rfl,rfl,rfl,Ae⟩ ?_
   refine AV 8 ?_
   refine Ik [] [] 149 #[.agg (AQ.arr y34)] (some 88) (by as_aux_lemma=>kernel_rfl) rfl rfl Ae ?_
   intro w90 hw90
   refine(VJ w90 y34 (he33.ext (hw90.ext rfl) (fun _ h=>h))).mono ?_
   rintro e w91 ⟨rfl,hkw91⟩
   have hnw91:n80+1≤w91.heap.size:=AY hw90 hkw91
   have hs92:=hw90.keeps hkw91
   refine⟨_,_,rfl,hs92,.inr (fun c hc=>hs92.all c (by first | exact hc | exact Cm (is:=[0,1,2,4,5,6,7,8,9,10,12]) rfl c hc)), ?_⟩
   refine CB [1,2,4,5,7,10,46,47,48,74,75,76,81,83,85,86,88] [(1,pt z),(Bo z),(BZ n2),(BD n2),(Du n25),(FC b50),(Dh c b27 o28),(CW c),(48,Aa k),(JF c k b82 o83 cp40),(FO c k),(76,Aa j),(81,.slice aD ((EQ c k j).length) cD),(83,i6 y89.partition),(85,i6 y89.port),(86,.func (.func 157) #[] #[pt n2]),(88,i6 (portOf y34))] ?_
   refine AV 9 ?_
   refine Ik [] [] 157 #[i6 (portOf y34),pt n2] (some 89) (by as_aux_lemma=>kernel_rfl) rfl rfl Ae ?_
   intro w93 hw93
   refine BA (args:=[i6 (portOf y34),pt n2]) 10 ⟨w,w91.heap.size,[(Ak w),(Ci c z),(Cj z),(Il n2 c k j),(Eu n2 c aP i cP csG aC cC),(Dw c aP i cP z),(Dn csG z),(Dq csG aC cC z),(Ee y34 n25),(mid (n25+1) w36),(IC c k y48 aD cD j b50),(Ij c k aD cD j z),(MZ y89 n80)]⟩ Tryz.func157 rfl (by kernel_rfl) (by kernel_rfl) hw93 ?_
   refine q_c 17 0 [] [[o0],[(a1 3),o0],[(a1 3),o0,(ov (i6 ((Me c k j)+(portOf y34)))),(a1 3)],[o0,o0]] [Qb n2,Qb n2,Wr ((Me c k j:Int)+(portOf y34)) ((Me c k j)+(portOf y34)),Qb n2] [(3,i6 (Me c k j))] ⟨w,w91.heap.size,[(Ak w),(Ci c z),(Cj z),(O7 n2 c k j y34),(Eu n2 c aP i cP csG aC cC),(Dw c aP i cP z),(Dn csG z),(Dq csG aC cC z),(Ee y34 n25),(mid (n25+1) w36),(IC c k y48 aD cD j b50),(Ij c k aD cD j z),(MZ y89 n80)]⟩ rfl ⟨rfl,rfl,Dk,rfl,Ae⟩ ?_
   refine AP [] [] (i6 (Me c k j)) Ae ?_
   intro w94 hw94
   have hs95:=hw94
   refine⟨_,_,rfl,hs95,.inr (fun c hc=>hs95.all c (by first | exact hc | exact Cm (is:=[0,1,2,4,5,6,7,8,9,10,12]) rfl c hc)), ?_⟩
   refine CB [1,2,4,5,7,10,46,47,48,74,75,76,81,83,85,89] [(1,pt z),(Bo z),(BZ n2),(BD n2),(Du n25),(FC b50),(Dh c b27 o28),(CW c),(48,Aa k),(JF c k b82 o83 cp40),(FO c k),(76,Aa j),(81,.slice aD ((EQ c k j).length) cD),(83,i6 y89.partition),(85,i6 y89.port),(89,i6 (Me c k j))] ?_
   refine CP [(10,o0)] [1,2,4,5,7,10,46,47,48,74,75,76,81,90] [] (Dy 11 4) [(1,pt z),(Bo z),(BZ n2),(BD n2),(Du n25),(FC b50),(Dh c b27 o28),(CW c),(48,Aa k),(JF c k b82 o83 cp40),(FO c k),(76,Aa j),(81,.slice aD ((EQ c k j).length) cD),(90,.agg #[i6 y89.partition,i6 y89.port,i6 (Me c k j)])] Ae ?_
   refine AV 11 ?_
   refine Bi o0 [1,2,4,5,7,10,46,47,48,74,75,76,81,91] [] [(1,pt z),(Bo z),(BZ n2),(BD n2),(Du n25),(FC b50),(Dh c b27 o28),(CW c),(48,Aa k),(JF c k b82 o83 cp40),(FO c k),(76,Aa j),(81,.slice aD ((EQ c k j).length) cD),(91,.slice (some ⟨w91.heap.size,0,none⟩) 1 1)] ⟨w,w91.heap.size+1,[(Ak w),(Ci c z),(Cj z),(O7 n2 c k j y34),(Eu n2 c aP i cP csG aC cC),(Dw c aP i cP z),(Dn csG z),(Dq csG aC cC z),(Ee y34 n25),(mid (n25+1) w36),(IC c k y48 aD cD j b50),(Ij c k aD cD j z),(MZ y89 n80),(QW c k j y89 w91)]⟩ [0,1,2,4,5,6,7,8,9,10,12] Ae (.inr rfl) ?_
   refine AV 12 ?_
   refine Xt z 11 13 (EQ c k j) [(⟨y89.partition,y89.port,Me c k j⟩:DC)] DC.cells 205 3 24 (.slice aD ((EQ c k j).length) cD) w91.heap.size 1 1 #[i6 y89.partition,i6 y89.port,i6 (Me c k j)] 205 (0,0) true (some 92) [0,1,2,4,5,6,7,8,9,10,12] (by simp only[List.length_cons,List.length_nil];omega) (show z≤w91.heap.size+1 by omega) (.inr ⟨rfl,rfl⟩) (fun ax96 cp97 n98 (hn99:w91.heap.size+1≤n98) => ?_)
   refine CB [1,2,4,5,7,10,46,47,48,74,75,76,92] [(1,pt z),(Bo z),(BZ n2),(BD n2),(Du n25),(FC b50),(Dh c b27 o28),(CW c),(48,Aa k),(JF c k b82 o83 cp40),(FO c k),(76,Aa j),(92,.slice ax96 ((EQ c k j++[(⟨y89.partition,y89.port,Me c k j⟩:DC)]).length) cp97)] ?_
   refine CP [(13,o0)] [1,2,4,5,7,10,46,47,48,74,75,76,92,93] [] (Dy 14 1) [(1,pt z),(Bo z),(BZ n2),(BD n2),(Du n25),(FC b50),(Dh c b27 o28),(CW c),(48,Aa k),(JF c k b82 o83 cp40),(FO c k),(76,Aa j),(92,.slice ax96 ((EQ c k j++[(⟨y89.partition,y89.port,Me c k j⟩:DC)]).length) cp97),(93,.pointer (some ⟨b50,4,none⟩))] Ae ?_
   refine AV 14 ?_
   refine Bi (a1 10) [1,2,4,5,7,10,46,47,48,74,75,76] [Qb b50] [(1,pt z),(Bo z),(BZ n2),(BD n2),(Du n25),(FC b50),(Dh c b27 o28),(CW c),(48,Aa k),(JF c k b82 o83 cp40),(FO c k),(76,Aa j)] ⟨w,n98,[(Ak w),(Ci c z),(Cj z),(O7 n2 c k j y34),(Eu n2 c aP i cP csG aC cC),(Dw c aP i cP z),(Dn csG z),(Dq csG aC cC z),(Ee y34 n25),(mid (n25+1) w36),(Um c k y48 j b50 ax96 y89 cp97),(QX c k j ax96 y89 cp97 z),(MZ y89 n80),(QW c k j y89 w91)]⟩ [] ⟨rfl,Ae⟩ (.inl rfl) ?_
   refine D9 15 [0,1,2,3,4,5,6,7,8,9,10,11,12,13] [(Ak w),(Ci c z),(Cj z),(O7 n2 c k j y34),(Eu n2 c aP i cP csG aC cC),(Dw c aP i cP z),(Dn csG z),(Dq csG aC cC z),(Ee y34 n25),(mid (n25+1) w36),(Um c k y48 j b50 ax96 y89 cp97),(QX c k j ax96 y89 cp97 z),(MZ y89 n80),(QW c k j y89 w91)] rfl rfl ?_
   refine CQ ?_
   refine Nl 4 0 [] [[(ov (i6 ((j+1:Nat):Int))),o0]] [Wr ((j:Int)+1) (((j+1:Nat):Int))] [(1,pt z),(Bo z),(BZ n2),(BD n2),(Du n25),(FC b50),(Dh c b27 o28),(CW c),(48,Aa k),(JF c k b82 o83 cp40),(FO c k),(76,i6 ((j+1:Nat):Int))] rfl ⟨Dk,Ae⟩ ?_
   refine C9 [0,1,2,3,4,5,6,7,8,9,10,11] [(Ak w),(Ci c z),(Cj z),(O7 n2 c k j y34),(Eu n2 c aP i cP csG aC cC),(Dw c aP i cP z),(Dn csG z),(Dq csG aC cC z),(Ee y34 n25),(mid (n25+1) w36),(Um c k y48 j b50 ax96 y89 cp97),(QX c k j ax96 y89 cp97 z)] rfl rfl ?_
   refine Gw [1,2,4,5,7,10,46,47,48,74,75,76] [(1,pt z),(Bo z),(BZ n2),(BD n2),(Du n25),(FC b50),(Dh c b27 o28),(CW c),(48,Aa k),(IL c k cp40 ax39),(FO c k),(76,i6 ((j+1:Nat):Int))] (by(try dsimp only[Um,IC,Eu,G5,QW,Cj,HY,O7,Il,EK,Ee,MZ,Ci,QX,Dw,Ij,Dq,Dn,JF,Dh,FO,Iq,BZ,IL,Eh,Ff,CW,BD,Bo,FC,Du,I5,Io]);simp only[ha84];rfl) ?_
   refine CS (fun a w' hs=>⟨(Dc c (k:Int) false).length - (j+1),by omega,n98,(j+1),ax96,cp97,rfl,by omega,by omega,by(try dsimp only[Um,IC,Eu,G5,QW,Cj,HY,O7,Il,EK,Ee,MZ,Ci,QX,Dw,Ij,Dq,Dn,JF,Dh,FO,Iq,BZ,IL,Eh,Ff,CW,BD,Bo,FC,Du,I5,Io]at hs ⊢);rw[dAt_succ,destsUp_succ,←hy34,show P7 c k j=⟨y89.partition,y89.port,Me c k j⟩from by rw[hy89];rfl];exact hs⟩)
  refine q_c 11 4 [0] [[oF],[o0,(a1 4),(an 5 10),o0]] [BF ((j:Int)<(((Dc c (k:Int) false).length:Nat):Int)),Qb (n2+1),Qb b50,Qb b50,Qb b50,Qb b50,Qb b50] [(1,pt z),(Bo z),(BZ n2),(BD n2),(Dh c b27 o28),(CW c),(48,Aa k),(96,.slice aC csG.length cC),(98,.slice (some ⟨n80,0,none⟩) 1 1)] ⟨w,n80+1,[(Ak w),(Ci c z),(Cj z),(Il n2 c k j),(Eu n2 c aP i cP csG aC cC),(Dw c aP i cP z),(Dn csG z),(Dq csG aC cC z),(Ee y34 n25),(mid (n25+1) w36),(IC c k y48 aD cD j b50),(Ij c k aD cD j z),(Wx c k y48 aD cD j n80)]⟩ rfl ⟨bf,rfl,rfl,rfl,rfl,rfl,rfl,Ae⟩ ?_
  refine QG z 7 12 csG [(⟨DV c k,(DV c k)+2,y48.partition,y48.port,(⟨aD,cD,EQ c k j⟩:Sl DC)⟩:Di)] Di.cells 194 5 56 (.slice aC csG.length cC) n80 1 1 #[i6 (DV c k),i6 ((DV c k)+2),i6 y48.partition,i6 y48.port,.slice aD ((EQ c k j).length) cD] 194 (0,0) true (some 99) (by simp only[List.length_cons,List.length_nil];omega) (show z≤n80+1 by omega) (fun ax100 cp101 n102 (hn103:n80+1≤n102) => ?_)
  refine EG 5 0 [] [[o0,(a1 4)],[(ov (i6 ((k+1:Nat):Int))),o0]] [Qb (n2+1),Wr ((k:Int)+1) (((k+1:Nat):Int))] [(1,pt z),(Bo z),(BZ n2),(BD n2),(Dh c b27 o28),(CW c),(48,i6 ((k+1:Nat):Int))] ⟨w,n102,[(Ak w),(Ci c z),(Cj z),(Il n2 c k j),(WG n2 c aP i cP ax100 csG k y48 aD cD j cp101),(Dw c aP i cP z),(Dn csG z),(Vj c ax100 csG k y48 aD cD j cp101 z),(Ee y34 n25),(mid (n25+1) w36),(IC c k y48 aD cD j b50),(Ij c k aD cD j z),(Wx c k y48 aD cD j n80)]⟩ rfl ⟨rfl,Dk,Ae⟩ ?_
  refine Ux 6 11 [0,1,2,3,4,5,7,8,9,10,12] [(Ak w),(Ci c z),(Cj z),(Il n2 c k j),(WG n2 c aP i cP ax100 csG k y48 aD cD j cp101),(Dw c aP i cP z),(Vj c ax100 csG k y48 aD cD j cp101 z),(Ee y34 n25),(mid (n25+1) w36),(IC c k y48 aD cD j b50),(Wx c k y48 aD cD j n80)] ?_
  refine C9 [0,1,2,3,4,5,11,6] [(Ak w),(Ci c z),(Cj z),(Il n2 c k j),(WG n2 c aP i cP ax100 csG k y48 aD cD j cp101),(Dw c aP i cP z),(Ed z 205 3 DC.cells (csG.map Di.Ob++[⟨aD,cD,EQ c k j⟩])),(Vj c ax100 csG k y48 aD cD j cp101 z)] rfl rfl ?_
  refine Gw [1,2,4,5,46,47,48] [(1,pt z),(Bo z),(BZ n2),(BD n2),(Iq c),(CW c),(48,i6 ((k+1:Nat):Int))] (by(try dsimp only[WG,Um,IC,Wx,Eu,G5,QW,Cj,HY,O7,Il,EK,Ee,MZ,Ci,Vj,QX,Dw,Ij,Dq,Dn,JF,Dh,FO,Iq,BZ,IL,Eh,Ff,CW,BD,Bo,FC,Du,I5,Io]);simp only[ha29];rfl) ?_
  refine CS (fun a w' hs=>⟨c.Aj.xs.length - (k+1),by omega,n102,(k+1),(csG++[(⟨DV c k,(DV c k)+2,y48.partition,y48.port,(⟨aD,cD,EQ c k j⟩:Sl DC)⟩:Di)]),ax100,cp101,rfl,by omega,by omega,by rw[List.length_append,hcl];rfl,chans_push hcl hcs (a:=aD) (cp:=cD) (by unfold Gv;rw[←hy48,show JQ c k=j from by unfold JQ;omega]),by(try dsimp only[WG,Um,IC,Wx,Eu,G5,QW,Cj,HY,O7,Il,EK,Ee,MZ,Ci,Vj,QX,Dw,Ij,Dq,Dn,JF,Dh,FO,Iq,BZ,IL,Eh,Ff,CW,BD,Bo,FC,Du,I5,Io]at hs ⊢);rw[List.map_append,cAt_succ,show JQ c k=j from by unfold JQ;omega];exact hs⟩)
 refine A8 12 1 [0] [[oF],[o0]] [BF ((k:Int)<(c.Aj.xs.length:Int))] [(1,pt z),(Bo z),(BD n2),(102,.func (.func 157) #[] #[pt n2])] rfl ⟨bf,Ae⟩ ?_
 refine l_call [] [] 157 #[i6 0,pt n2] (some 103) Ae ?_
 intro w104 hw104
 refine BA (args:=[i6 0,pt n2]) 10 ⟨w,n25,(I5 n2 c aP i cP csG k aC cC z w)⟩ Tryz.func157 rfl (by kernel_rfl) (by kernel_rfl) hw104 ?_
 refine A8 17 0 [] [[o0],[(a1 3),o0],[(a1 3),o0,(ov (i6 (DV c k))),(a1 3)],[o0,o0]] [Qb n2,Qb n2,Wr ((DV c k:Int)+0) (DV c k),Qb n2] [(3,i6 (DV c k))] rfl ⟨rfl,rfl,Dk,rfl,Ae⟩ ?_
 refine AP [] [] (i6 (DV c k)) Ae ?_
 intro w105 hw105
 refine⟨_,_,rfl,hw105, ?_⟩
 refine Bv 0 3 [] [[(ov (i6 ((DV c k)+16))),(ov (i6 (((DV c k)+16) - 1))),(ov (i6 ((((DV c k)+16) - 1) / 16)))]] [Wr ((DV c k:Int)+16) ((DV c k)+16),Wr (((DV c k)+16:Int) - 1) (((DV c k)+16) - 1),Wr (Int.tdiv (((DV c k)+16) - 1) 16) ((((DV c k)+16) - 1) / 16)] [(1,pt z),(Bo z),(BD n2),(106,i6 ((((DV c k)+16) - 1) / 16))] rfl ⟨Dk,Dk,congrArg (Value.int .i64) (Zbl (by omega) (by omega) (by omega)),Ae⟩ ?_
 refine l_call [] [] 146 #[i6 ((((DV c k)+16) - 1) / 16)] (some 107) Ae ?_
 intro w106 hw106
 refine BA (args:=[i6 ((((DV c k)+16) - 1) / 16)]) 4 ⟨w,n25,(I5 n2 c aP i cP csG k aC cC z w)⟩ Tryz.func146 rfl (by kernel_rfl) (by kernel_rfl) hw106 ?_
 refine q_c 9 0 [] [[o0,o0],[o0,o0]] [] [(2,.func (.func 157) #[] #[pt n25])] ⟨w,n25+1,[(Ak w),(Ci c z),(Cj z),(EK n2 c k),(Eu n2 c aP i cP csG aC cC),(Dw c aP i cP z),(Dn csG z),(Dq csG aC cC z),(bk n25 #[i6 ((((DV c k)+16) - 1) / 16)] 3)]⟩ rfl Ae ?_
 refine AP [] [] (.func (.func 157) #[] #[pt n25]) Ae ?_
 intro w107 hw107
 refine⟨_,_,rfl,hw107, ?_⟩
 refine Bv 8 0 [] [[o0],[o0,(a1 1),o0,o0]] [Qb z] [(Bo z),(BD n2),(Fe n25),(LG c),(Fg c),(111,i6 0)] rfl ⟨rfl,Ae⟩ ?_
 refine Rx z 3 1 (fun x:Int=>[i6 x]) ?_
 refine DI (fun m a w'=>∃ (n109:Nat) (p:Nat) (psG:List BJ) (aP2:Option Addr) (cP2:Nat),m=c.Ac.xs.length - p∧n25+1≤n109∧(p≤c.Ac.xs.length)∧(psG.length=c.Ac.xs.length)∧(∀ q,p≤q→q<c.Ac.xs.length→gd psG q=ZG c q)∧(∀ q,q<p→∃ a cp,gd psG q=Jv c q ⟨a,cp,Gp c q (JW (gd c.Ac.xs q))⟩)∧St 148 [(Bo z),(BD n2),(Fe n25),(LG c),(Fg c),(111,Aa p)] [] ⟨w,n109,(NU n2 c csG k psG cP2 aC cC aP2 z n25 p w)⟩ a w') (c.Ac.xs.length - 0) ?_ ?_
 ·intro a w' hs;exact⟨(n25+1),0,(Ib c i),aP,cP,rfl,Nat.le_refl _,Nat.zero_le _,(by rw[Xc];omega),(fun q _ hq=>Zbd (show q<i by omega)),fun q hq=>absurd hq (Nat.not_lt_zero q),by(try dsimp only[IC,Eu,G5,OH,Cj,HY,Il,Na,EK,Ee,Ci,Dw,I4,Ij,NV,Dq,Dn,Dh,LG,FO,Iq,Fe,BZ,IL,Eh,Fg,Ff,CW,BD,Bo,FC,Du,NU,I5,Io]at hs ⊢);rw[show Fz c 0=(((DV c k)+16) - 1) / 16 from by rw[tAt_zero,show k=c.Aj.xs.length by omega]];exact hs⟩
 rintro m a w' ⟨n109,p,psG,aP2,cP2,rfl,hn108,hkp,hpl,hp1,hp2,hs⟩
 refine(?_:G Tryz.prog 148 [(Bo z),(BD n2),(Fe n25),(LG c),(Fg c),(111,Aa p)] [] ⟨w,n109,(NU n2 c csG k psG cP2 aC cC aP2 z n25 p w)⟩ _ _ _) a w' hs
 clear hs a w'
 have htb:=Wq hfine p (by omega)
 refine Dl ?_
 by_cases h110:(p:Int)<(c.Ac.xs.length:Int)
 ·refine A8 10 0 [1] [[oT]] [BT ((p:Int)<(c.Ac.xs.length:Int))] [(Bo z),(BD n2),(Fe n25),(LG c),(Fg c),(111,Aa p),(112,.bool true)] rfl ⟨bt,Ae⟩ ?_
  obtain⟨b111,o112,ha113,hF115,hc114⟩:=(hc.Ac).1.all (show 0<c.Ac.xs.length by omega)
  replace ha113:c.Ac.a=some ⟨b111,o112,none⟩:=ha113
  refine J4 [(Bo z),(BD n2),(Fe n25),(Gs c b111 o112),(Fg c),(111,Aa p),(112,.bool true)] (by(try dsimp only[IC,Eu,G5,OH,Cj,HY,Il,Na,EK,Ee,Ci,Dw,I4,Ij,NV,Dq,Dn,Gs,Dh,LG,FO,Iq,Fe,BZ,IL,Eh,Fg,Ff,CW,BD,Bo,FC,Du,NU,I5,Io]);simp only[ha113]) ?_
  have hc116:=hc114 p (show p<c.Ac.xs.length by omega)
  have he117:=(hc.Ac).2 p (show p<c.Ac.xs.length by omega)
  obtain⟨y118,hy118⟩:∃ y_,y_=gd c.Ac.xs p:=⟨_,rfl⟩
  rw[←hy118]at he117 hc116
  have htn:=Yb y118
  refine q_c 4 0 [] [[o0,(oi p),(ol 0 (Ap.arr y118)),o0,o0,(an 8 10)]] [Ea p,p<c.Ac.xs.length,Ec,Hu w b111 (o112+p*8) (Ap.arr y118),Qb n109,Qb n109,Qb n109,Qb n109,Qb n109,Qb n109,Qb n109,Qb n109] [(Bo z),(BD n2),(Fe n25),(Gs c b111 o112),(Fg c),(111,Aa p),(15,pt n109),(14,Aa p)] ⟨w,n109+1,[(Ak w),(Ci c z),(Cj z),(EK n2 c k),(OH n2 c csG psG cP2 aC cC aP2),(NV psG cP2 aP2 z),(Dn csG z),(Dq csG aC cC z),(Na c n25 p),(I4 psG z p),(Jr n109 y118)]⟩ rfl ⟨rfl,(by omega),rfl,EE hc116,rfl,rfl,rfl,rfl,rfl,rfl,rfl,rfl,Ae⟩ ?_
  refine Ky (base:=z) (e:=203) (sz:=5) (cells:=BJ.cells) (a:=aP2) (n:=psG.length) (cap:=cP2) (xs:=psG) 5 (by omega) (fun b119 hg120 hb121 => ?_)
  subst hg120
  refine DK 7 [0,1,2,3,4,5,6,7,9,10] [(Ak w),(Ci c z),(Cj z),(EK n2 c k),(JY n2 c csG b119 psG cP2 aC cC),(BB z 203 5 BJ.cells (.slice (some ⟨b119,0,none⟩) psG.length cP2) psG),(Dn csG z),(Dq csG aC cC z),(I4 psG z p),(Jr n109 y118)] rfl rfl ?_
  refine CP [(0,o0),(1,(a1 4)),(2,o0),(3,o0)] [2,5,13,109,110,111,15,14,117,118,119] [Qb (n2+1)] (Dy 4 4) [(Bo z),(BD n2),(Fe n25),(Gs c b111 o112),(Fg c),(111,Aa p),(15,pt n109),(14,Aa p),(117,.slice (some ⟨b119,0,none⟩) psG.length cP2),(118,Aa p),(119,.func (.func 157) #[] #[pt n25])] ⟨rfl,Ae⟩ ?_
  refine AV 4 ?_
  refine Ik [] [] 157 #[i6 1,pt n25] (some 120) (by as_aux_lemma=>kernel_rfl) rfl rfl Ae ?_
  intro w122 hw122
  refine BA (args:=[i6 1,pt n25]) 10 ⟨w,n109+1,[(Ak w),(Ci c z),(Cj z),(EK n2 c k),(JY n2 c csG b119 psG cP2 aC cC),(BB z 203 5 BJ.cells (.slice (some ⟨b119,0,none⟩) psG.length cP2) psG),(Dn csG z),(Dq csG aC cC z),(Na c n25 p),(I4 psG z p),(Jr n109 y118)]⟩ Tryz.func157 rfl (by kernel_rfl) (by kernel_rfl) hw122 ?_
  refine q_c 17 0 [] [[o0],[(a1 8),o0],[(a1 8),o0,(ov (i6 ((Fz c p)+1))),(a1 8)],[o0,o0]] [Qb n25,Qb n25,Wr ((Fz c p:Int)+1) ((Fz c p)+1),Qb n25] [(3,i6 (Fz c p))] ⟨w,n109+1,[(Ak w),(Ci c z),(Cj z),(EK n2 c k),(JY n2 c csG b119 psG cP2 aC cC),(BB z 203 5 BJ.cells (.slice (some ⟨b119,0,none⟩) psG.length cP2) psG),(Dn csG z),(Dq csG aC cC z),(bk n25 #[i6 ((Fz c p)+1)] 3),(I4 psG z p),(Jr n109 y118)]⟩ rfl ⟨rfl,rfl,Dk,rfl,Ae⟩ ?_
  refine AP [] [] (i6 (Fz c p)) Ae ?_
  intro w123 hw123
  have hs124:=hw123
  refine⟨_,_,rfl,hs124,.inr (fun c hc=>hs124.all c (by first | exact hc | exact Cm (is:=[0,1,2,3,4,5,6,7,9,10]) rfl c hc)), ?_⟩
  refine CB [2,5,13,109,110,111,15,14,117,118,120] [(Bo z),(BD n2),(Fe n25),(Gs c b111 o112),(Fg c),(111,Aa p),(15,pt n109),(14,Aa p),(117,.slice (some ⟨b119,0,none⟩) psG.length cP2),(118,Aa p),(120,i6 (Fz c p))] ?_
  refine CP [(5,(oi p)),(6,o0)] [2,5,13,109,110,111,15,14,120,122] [Ea p,p<psG.length,Ec] (Dy 7 1) [(Bo z),(BD n2),(Fe n25),(Gs c b111 o112),(Fg c),(111,Aa p),(15,pt n109),(14,Aa p),(120,i6 (Fz c p)),(122,.pointer (some ⟨b119,0+GI 5 p+3,none⟩))] ⟨rfl,(by omega),rfl,Ae⟩ ?_
  refine AV 7 ?_
  refine Zai 5 p 3 psG (⟨Ei c p,Ei c p+2,Ei c p+2+17,Fz c p,(⟨none,0,[]⟩:Sl Int)⟩:BJ) BJ.cells z 203 5 b119 psG.length cP2 (i6 (Fz c p)) none [] (by first | omega | (rw[List.length_set];omega)) (by first | (rw[hp1 p (Nat.le_refl _) (by omega)];rfl) | (rw[UT (by omega)];rfl)) (.inl rfl) ?_
  refine CB [2,5,13,109,110,111,15,14] [(Bo z),(BD n2),(Fe n25),(Gs c b111 o112),(Fg c),(111,Aa p),(15,pt n109),(14,Aa p)] ?_
  refine D9 8 [0,1,2,3,4,5,6,7,8,9,10] [(Ak w),(Ci c z),(Cj z),(EK n2 c k),(JY n2 c csG b119 psG cP2 aC cC),(BB z 203 5 BJ.cells (.slice (some ⟨b119,0,none⟩) psG.length cP2) (psG.set p (⟨Ei c p,Ei c p+2,Ei c p+2+17,Fz c p,(⟨none,0,[]⟩:Sl Int)⟩:BJ))),(Dn csG z),(Dq csG aC cC z),(bk n25 #[i6 ((Fz c p)+1)] 3),(I4 psG z p),(Jr n109 y118)] rfl rfl ?_
  refine CQ ?_
  refine Nl 3 1 [] [[(an 8 10)]] [Qb n109,Qb n109,Qb n109,Qb n109,Qb n109,Qb n109,Qb n109,Qb n109] [(Bo z),(BD n2),(Fe n25),(Gs c b111 o112),(Fg c),(111,Aa p),(14,Aa p),(123,.agg (Ap.arr y118))] rfl ⟨rfl,rfl,rfl,rfl,rfl,rfl,rfl,rfl,Ae⟩ ?_
  refine BV 150 #[.agg (Ap.arr y118)] (some 124) (i6 ((JW y118:Nat):Int)) (fun w125 hw125=>tables_calls w125 y118 (he117.ext (hw125.ext rfl) (fun _ h=>h)) (regs_ok (by rw[hy118];exact hfine.parts p (by omega)))) (fun n126 (hn127:n109+1≤n126) => ?_)
  refine Bv 3 0 [] [[o0]] [] [(Bo z),(BD n2),(Fe n25),(Gs c b111 o112),(Fg c),(111,Aa p),(14,Aa p),(Ja y118),(125,i6 0)] rfl Ae ?_
  refine N8 z 3 1 (fun x:Int=>[i6 x]) ?_
  refine Cc [2,5,13,14,109,110,111,124,125] [(Bo z),(BD n2),(Fe n25),(14,Aa p),(Gs c b111 o112),(Fg c),(111,Aa p),(Ja y118),(125,i6 0)] ?_
  refine DI (fun m a w'=>∃ (n129:Nat) (t:Nat) (aT:Option Addr) (cT:Nat),m=(JW y118) - t∧n126≤n129∧(t≤(JW y118))∧St 148 [(Bo z),(BD n2),(Fe n25),(14,Aa p),(Gs c b111 o112),(Fg c),(111,Aa p),(Ja y118),(125,Aa t)] [] ⟨w,n129,(PQ n2 c csG k b119 psG cP2 aC cC z n25 p t n109 y118 aT cT w)⟩ a w') ((JW y118) - 0) ?_ ?_
  ·intro a w' hs;exact⟨n126,0,none,0,rfl,Nat.le_refl _,Nat.zero_le _,by(try dsimp only[IC,JY,Eu,G5,OH,Cj,HY,PT,Il,Jr,Na,EK,Ee,Ci,Lt,Qc,Dw,I4,Ij,NV,Dq,Dn,Gs,Dh,LG,FO,Iq,Fe,BZ,IL,Eh,Fg,Ff,CW,Ja,BD,Bo,FC,Du,PQ,NU,I5,Io]at hs ⊢);rw[show Fz c p+1+((0:Nat):Int)=Fz c p+1 from by omega];exact hs⟩
  rintro m a w' ⟨n129,t,aT,cT,rfl,hn128,hkt,hs⟩
  refine(?_:G Tryz.prog 148 [(Bo z),(BD n2),(Fe n25),(14,Aa p),(Gs c b111 o112),(Fg c),(111,Aa p),(Ja y118),(125,Aa t)] [] ⟨w,n129,(PQ n2 c csG k b119 psG cP2 aC cC z n25 p t n109 y118 aT cT w)⟩ _ _ _) a w' hs
  clear hs a w'
  have htl:(Gp c p t).length=t:=VO
  refine Dl ?_
  by_cases h130:(t:Int)<((JW y118:Nat):Int)
  ·refine A8 9 0 [1] [[oT]] [BT ((t:Int)<((JW y118:Nat):Int))] [(Bo z),(BD n2),(Fe n25),(14,Aa p),(Gs c b111 o112),(Fg c),(111,Aa p),(Ja y118),(125,Aa t),(126,.bool true)] rfl ⟨bt,Ae⟩ ?_
   refine DK 15 [0,1,2,3,4,5,6,7,9,10] [(Ak w),(Ci c z),(Cj z),(EK n2 c k),(JY n2 c csG b119 psG cP2 aC cC),(Lt c b119 psG cP2 z p t aT cT),(Dn csG z),(Dq csG aC cC z),(I4 psG z p),(Jr n109 y118)] rfl rfl ?_
   refine CP [(0,o0),(1,(a1 4)),(2,o0),(3,o0),(4,(a1 4)),(5,o0),(6,(oi p)),(7,o0),(8,(oa [.via 5 (.slice aT ((Gp c p t).length) cT)])),(9,o0)] [2,5,13,14,109,110,111,124,125,128,129,135,136] [Qb (n2+1),Qb (n2+1),Ea p,p<psG.length,Ec,∀ w',Ch.holds (Lt c b119 psG cP2 z p t aT cT) w'→w'.cell? ⟨b119,0+GI 5 p+4,none⟩=some (.slice aT ((Gp c p t).length) cT)] (Dy 10 6) [(Bo z),(BD n2),(Fe n25),(14,Aa p),(Gs c b111 o112),(Fg c),(111,Aa p),(Ja y118),(125,Aa t),(128,.slice (some ⟨b119,0,none⟩) psG.length cP2),(129,Aa p),(135,.slice aT ((Gp c p t).length) cT),(136,.func (.func 157) #[] #[pt n25])] ⟨rfl,rfl,rfl,(by omega),rfl,Jm (sz:=5) (j:=p) (k:=4) (fun _=>rfl) (by first | omega | (rw[List.length_set];omega)) (by rw[UT (by omega)];rfl),Ae⟩ ?_
   refine AV 10 ?_
   refine Ik [] [] 157 #[i6 1,pt n25] (some 137) (by as_aux_lemma=>kernel_rfl) rfl rfl Ae ?_
   intro w131 hw131
   refine BA (args:=[i6 1,pt n25]) 10 ⟨w,n129,(PQ n2 c csG k b119 psG cP2 aC cC z n25 p t n109 y118 aT cT w)⟩ Tryz.func157 rfl (by kernel_rfl) (by kernel_rfl) hw131 ?_
   refine q_c 17 0 [] [[o0],[(a1 8),o0],[(a1 8),o0,(ov (i6 ((Fz c p+1+(t:Int))+1))),(a1 8)],[o0,o0]] [Qb n25,Qb n25,Wr ((Fz c p+1+(t:Int):Int)+1) ((Fz c p+1+(t:Int))+1),Qb n25] [(3,i6 (Fz c p+1+(t:Int)))] ⟨w,n129,[(Ak w),(Ci c z),(Cj z),(EK n2 c k),(JY n2 c csG b119 psG cP2 aC cC),(Lt c b119 psG cP2 z p t aT cT),(Dn csG z),(Dq csG aC cC z),(QL c n25 p t),(I4 psG z p),(Jr n109 y118),(Qc c z p t aT cT)]⟩ rfl ⟨rfl,rfl,Dk,rfl,Ae⟩ ?_
   refine AP [] [] (i6 (Fz c p+1+(t:Int))) Ae ?_
   intro w132 hw132
   have hs133:=hw132
   refine⟨_,_,rfl,hs133,.inr (fun c hc=>hs133.all c (by first | exact hc | exact Cm (is:=[0,1,2,3,4,5,6,7,9,10]) rfl c hc)), ?_⟩
   refine CB [2,5,13,14,109,110,111,124,125,128,129,135,137] [(Bo z),(BD n2),(Fe n25),(14,Aa p),(Gs c b111 o112),(Fg c),(111,Aa p),(Ja y118),(125,Aa t),(128,.slice (some ⟨b119,0,none⟩) psG.length cP2),(129,Aa p),(135,.slice aT ((Gp c p t).length) cT),(137,i6 (Fz c p+1+(t:Int)))] ?_
   refine AV 11 ?_
   refine Bi o0 [2,5,13,14,109,110,111,124,125,128,129,135,138] [] [(Bo z),(BD n2),(Fe n25),(14,Aa p),(Gs c b111 o112),(Fg c),(111,Aa p),(Ja y118),(125,Aa t),(128,.slice (some ⟨b119,0,none⟩) psG.length cP2),(129,Aa p),(135,.slice aT ((Gp c p t).length) cT),(138,.slice (some ⟨n129,0,none⟩) 1 1)] ⟨w,n129+1,[(Ak w),(Ci c z),(Cj z),(EK n2 c k),(JY n2 c csG b119 psG cP2 aC cC),(Lt c b119 psG cP2 z p t aT cT),(Dn csG z),(Dq csG aC cC z),(QL c n25 p t),(I4 psG z p),(Jr n109 y118),(Qc c z p t aT cT),(bk n129 #[i6 (Fz c p+1+(t:Int))] 3)]⟩ [0,1,2,3,4,5,6,7,9,10] Ae (.inr rfl) ?_
   refine AV 12 ?_
   refine Xt z 11 12 (Gp c p t) [Fz c p+1+(t:Int)] (fun x:Int=>[i6 x]) 3 1 8 (.slice aT ((Gp c p t).length) cT) n129 1 1 #[i6 (Fz c p+1+(t:Int))] 3 (0,0) true (some 139) [0,1,2,3,4,5,6,7,9,10] (by simp only[List.length_cons,List.length_nil];omega) (show z≤n129+1 by omega) (.inr ⟨rfl,rfl⟩) (fun ax134 cp135 n136 (hn137:n129+1≤n136) => ?_)
   refine CB [2,5,13,14,109,110,111,124,125,128,129,139] [(Bo z),(BD n2),(Fe n25),(14,Aa p),(Gs c b111 o112),(Fg c),(111,Aa p),(Ja y118),(125,Aa t),(128,.slice (some ⟨b119,0,none⟩) psG.length cP2),(129,Aa p),(139,.slice ax134 (((Gp c p t)++[Fz c p+1+(t:Int)]).length) cp135)] ?_
   refine CP [(13,(oi p)),(14,o0)] [2,5,13,14,109,110,111,124,125,139,141] [Ea p,p<psG.length,Ec] (Dy 15 1) [(Bo z),(BD n2),(Fe n25),(14,Aa p),(Gs c b111 o112),(Fg c),(111,Aa p),(Ja y118),(125,Aa t),(139,.slice ax134 (((Gp c p t)++[Fz c p+1+(t:Int)]).length) cp135),(141,.pointer (some ⟨b119,0+GI 5 p+4,none⟩))] ⟨rfl,(by omega),rfl,Ae⟩ ?_
   refine AV 15 ?_
   refine Zai 5 p 4 (psG.set p (⟨Ei c p,Ei c p+2,Ei c p+2+17,Fz c p,(⟨aT,cT,Gp c p t⟩:Sl Int)⟩:BJ)) (⟨Ei c p,Ei c p+2,Ei c p+2+17,Fz c p,(⟨ax134,cp135,((Gp c p t)++[Fz c p+1+(t:Int)])⟩:Sl Int)⟩:BJ) BJ.cells z 203 5 b119 psG.length cP2 (.slice ax134 (((Gp c p t)++[Fz c p+1+(t:Int)]).length) cp135) none [] (by first | omega | (rw[List.length_set];omega)) (by first | (rw[hp1 p (Nat.le_refl _) (by omega)];rfl) | (rw[UT (by omega)];rfl)) (.inl rfl) ?_
   refine CB [2,5,13,14,109,110,111,124,125] [(Bo z),(BD n2),(Fe n25),(14,Aa p),(Gs c b111 o112),(Fg c),(111,Aa p),(Ja y118),(125,Aa t)] ?_
   refine D9 16 [0,1,2,3,4,5,6,7,8,9,10,11,12] [(Ak w),(Ci c z),(Cj z),(EK n2 c k),(JY n2 c csG b119 psG cP2 aC cC),(UV c b119 psG cP2 z p t aT cT ax134 cp135),(Dn csG z),(Dq csG aC cC z),(QL c n25 p t),(I4 psG z p),(Jr n109 y118),(BB z 3 1 (fun x:Int=>[i6 x]) (.slice ax134 (((Gp c p t)++[Fz c p+1+(t:Int)]).length) cp135) ((Gp c p t)++[Fz c p+1+(t:Int)])),(bk n129 #[i6 (Fz c p+1+(t:Int))] 3)] rfl rfl ?_
   refine CQ ?_
   refine Nl 4 0 [] [[(ov (i6 ((t+1:Nat):Int))),o0]] [Wr ((t:Int)+1) (((t+1:Nat):Int))] [(Bo z),(BD n2),(Fe n25),(14,Aa p),(Gs c b111 o112),(Fg c),(111,Aa p),(Ja y118),(125,i6 ((t+1:Nat):Int))] rfl ⟨Dk,Ae⟩ ?_
   refine C9 [0,1,2,3,4,5,6,7,8,9,10,11] [(Ak w),(Ci c z),(Cj z),(EK n2 c k),(JY n2 c csG b119 psG cP2 aC cC),(UV c b119 psG cP2 z p t aT cT ax134 cp135),(Dn csG z),(Dq csG aC cC z),(QL c n25 p t),(I4 psG z p),(Jr n109 y118),(BB z 3 1 (fun x:Int=>[i6 x]) (.slice ax134 (((Gp c p t)++[Fz c p+1+(t:Int)]).length) cp135) ((Gp c p t)++[Fz c p+1+(t:Int)]))] rfl rfl ?_
   refine Cb [2,5,13,14,109,110,111,124,125] [(Bo z),(BD n2),(Fe n25),(14,Aa p),(Gs c b111 o112),(Fg c),(111,Aa p),(Ja y118),(125,i6 ((t+1:Nat):Int))] ?_
   refine CS (fun a w' hs=>⟨(JW y118) - (t+1),by omega,n136,(t+1),ax134,cp135,rfl,by omega,by omega,by(try dsimp only[IC,JY,Eu,G5,OH,Cj,HY,QL,PT,Il,Jr,Na,EK,Ee,Ci,UV,Lt,Qc,Dw,I4,Ij,NV,Dq,Dn,Gs,Dh,LG,FO,Iq,Fe,BZ,IL,Eh,Fg,Ff,CW,Ja,BD,Bo,FC,Du,PQ,NU,I5,Io]at hs ⊢);simp only[List.set_set]at hs;rw[show Fz c p+1+((t+1:Nat):Int)=Fz c p+1+(t:Int)+1 from by omega,tabsAt_succ];exact hs⟩)
  refine A8 13 0 [0] [[oF],[(ov (i6 ((p+1:Nat):Int))),o0]] [BF ((t:Int)<((JW y118:Nat):Int)),Wr ((p:Int)+1) (((p+1:Nat):Int))] [(Bo z),(BD n2),(Fe n25),(Gs c b111 o112),(Fg c),(111,i6 ((p+1:Nat):Int))] rfl ⟨bf,Dk,Ae⟩ ?_
  refine Ux 9 11 [0,1,2,3,4,5,6,7,8,10] [(Ak w),(Ci c z),(Cj z),(EK n2 c k),(JY n2 c csG b119 psG cP2 aC cC),(Lt c b119 psG cP2 z p t aT cT),(Dn csG z),(Dq csG aC cC z),(PT c n25 p t),(Jr n109 y118)] ?_
  refine C9 [0,1,2,3,4,5,6,7,8,10] [(Ak w),(Ci c z),(Cj z),(EK n2 c k),(JY n2 c csG b119 psG cP2 aC cC),(Lt c b119 psG cP2 z p t aT cT),(Dn csG z),(Dq csG aC cC z),(PT c n25 p t),(Ed z 3 1 (fun x:Int=>[i6 x]) ((psG.take p).map BJ.Tables++[⟨aT,cT,(Gp c p t)⟩]))] rfl rfl ?_
  refine Gw [2,5,13,109,110,111] [(Bo z),(BD n2),(Fe n25),(LG c),(Fg c),(111,i6 ((p+1:Nat):Int))] (by(try dsimp only[IC,JY,Eu,G5,OH,Cj,HY,QL,PT,Il,Jr,Na,EK,Ee,Ci,UV,Lt,Qc,Dw,I4,Ij,NV,Dq,Dn,Gs,Dh,LG,FO,Iq,Fe,BZ,IL,Eh,Fg,Ff,CW,Ja,BD,Bo,FC,Du,PQ,NU,I5,Io]);simp only[ha113];rfl) ?_
  refine CS (fun a w' hs=>⟨c.Ac.xs.length - (p+1),by omega,n129,(p+1),(psG.set p (⟨Ei c p,Ei c p+2,Ei c p+2+17,Fz c p,(⟨aT,cT,Gp c p t⟩:Sl Int)⟩:BJ)),(some ⟨b119,0,none⟩),cP2,rfl,by omega,by omega,by rw[List.length_set];exact hpl,fun q h1 h2=>by rw[Uy (by omega) (by omega)];exact hp1 q (by omega) h2,fun q hq=>if e:q=p then(by rw[e];exact⟨aT,cT,by rw[UT (by omega),←hy118,show JW y118=t by omega];rfl⟩)else(by rw[Uy (fun e2=>e e2.symm) (by omega)];exact hp2 q (by omega)),by(try dsimp only[IC,JY,Eu,G5,OH,Cj,HY,QL,PT,Il,Jr,Na,EK,Ee,Ci,UV,Lt,Qc,Dw,I4,Ij,NV,Dq,Dn,Gs,Dh,LG,FO,Iq,Fe,BZ,IL,Eh,Fg,Ff,CW,Ja,BD,Bo,FC,Du,PQ,NU,I5,Io]at hs ⊢);rw[Sr (by omega),List.map_append,List.length_set,show Fz c (p+1)=Fz c p+1+(t:Int)from by rw[tAt_succ,←hy118];omega];exact hs⟩)
 refine A8 12 1 [0] [[oF],[o0]] [BF ((p:Int)<(c.Ac.xs.length:Int))] [(Bo z),(BD n2),(144,.func (.func 157) #[] #[pt n25])] rfl ⟨bf,Ae⟩ ?_
 refine l_call [] [] 157 #[i6 0,pt n25] (some 145) Ae ?_
 intro w138 hw138
 refine BA (args:=[i6 0,pt n25]) 10 ⟨w,n109,(NU n2 c csG k psG cP2 aC cC aP2 z n25 p w)⟩ Tryz.func157 rfl (by kernel_rfl) (by kernel_rfl) hw138 ?_
 refine A8 17 0 [] [[o0],[(a1 8),o0],[(a1 8),o0,(ov (i6 (Fz c p))),(a1 8)],[o0,o0]] [Qb n25,Qb n25,Wr ((Fz c p:Int)+0) (Fz c p),Qb n25] [(3,i6 (Fz c p))] rfl ⟨rfl,rfl,Dk,rfl,Ae⟩ ?_
 refine AP [] [] (i6 (Fz c p)) Ae ?_
 intro w139 hw139
 refine⟨_,_,rfl,hw139, ?_⟩
 refine EG 7 0 [] [[o0,(a1 4)],[(an 4 4),(an 4 2),o0]] [Qb (n2+1),Qb (n2+1),Qb (n2+1),Qb (n2+1),Qb (n2+1),Qb (z+1),Qb (z+1),Qb (z+1),Qb (z+1)] [(Bo z),(3,i6 0)] ⟨w,n109,[(Ak w),(Ci c z),(bk (z+1) #[i6 (c.Kernel*16),.slice aP2 psG.length cP2,.slice aC csG.length cC,i6 (Fz c p)] 172),(EK n2 c k),(bk (n2+1) #[i6 (c.Kernel*16),.slice aP2 psG.length cP2,.slice aC csG.length cC,i6 (Fz c p)] 172),(NV psG cP2 aP2 z),(Dn csG z),(Dq csG aC cC z),(Na c n25 p),(I4 psG z p)]⟩ rfl ⟨rfl,rfl,rfl,rfl,rfl,rfl,rfl,rfl,rfl,Ae⟩ ?_
 refine AP [.at 2,.at 2,.at 2,.at 2] [Qb (z+1),Qb (z+1),Qb (z+1),Qb (z+1)] (.tuple #[.agg #[i6 (c.Kernel*16),.slice aP2 psG.length cP2,.slice aC csG.length cC,i6 (Fz c p)],i6 0]) ⟨rfl,rfl,rfl,rfl,Ae⟩ ?_
 intro w140 hw140
 have hL:IsLay c ⟨c.Kernel*16,⟨aP2,cP2,psG⟩,⟨aC,cC,csG⟩,Fz c p⟩:=⟨rfl,by rw[show p=c.Ac.xs.length by omega],hpl,fun q hq=>hp2 q (by omega),by simp only;omega,fun q hq=>hcs q (by omega)⟩
 have hO:LayOwn z w140 ⟨c.Kernel*16,⟨aP2,cP2,psG⟩,⟨aC,cC,csG⟩,Fz c p⟩:=⟨w,by
  have h4:=hw140.pick [5,7,6,9] rfl rfl
  rw[hw140.size]
  unfold layS
  (try dsimp only[IC,JY,Eu,G5,OH,Cj,HY,PT,Il,Jr,Na,EK,Ee,Ci,Lt,Qc,Dw,I4,Ij,NV,Dq,Dn,Gs,Dh,LG,FO,Iq,Fe,BZ,IL,Eh,Fg,Ff,CW,Ja,BD,Bo,FC,Du,PQ,NU,I5,Io]at h4)
  rw[List.take_of_length_le (by omega)]at h4
  exact h4⟩
 exact⟨_,rfl,hL,hz ▸ lay_ok hfine hL hO,hz ▸ hO,Au hw140⟩
def Nw(c:Ai):Int:=if FQ c=true then Fz c c.Ac.xs.length - c.Kernel else 0
def errOf(c:Ai):Int:=if FQ c=true then 0 else 150
theorem need_calls(w:World)(c:Ai)(hc:Ai.ok Any w c):Calls Tryz.prog 116 #[.agg (Ai.arr c)] w fun e w'=>e = .returned (.tuple #[.int .i64 (Nw c),.int .i64 (errOf c)])∧BH (fun _=>False) w w':=by
 obtain⟨z,hz⟩:∃ z,z=w.heap.size:=⟨_,rfl⟩
 refine BA (args:=[.agg (Ai.arr c)]) 19 ⟨w,z,[(Ak w)]⟩ Tryz.func116 rfl (by kernel_rfl) (by kernel_rfl) (En hz) ?_
 refine Cc [0] [(0,.agg (Ai.arr c))] ?_
 refine q_c 6 1 [] [[o0,o0,o0],[(an 7 1)]] [Qb z,Qb z,Qb z,Qb z,Qb z,Qb z,Qb z] [(1,pt z),(7,.agg (Ai.arr c))] ⟨w,z+1,[(Ak w),(bk z (Ai.arr c) 27)]⟩ rfl ⟨rfl,rfl,rfl,rfl,rfl,rfl,rfl,Ae⟩ ?_
 refine l_call [] [] 136 #[.agg (Ai.arr c)] (some 8) Ae ?_
 intro w1 hw1
 by_cases hok2:FQ c=true
 ·refine(of_yes w1 c (hc.ext (hw1.ext rfl) (fun _ h=>h)) hok2).mono ?_
  rintro e w3 ⟨lw3,rfl,hIw3,hLw3,hOw3,hkw3⟩
  have hfw3:=fine_of hok2;have hknw3:=hfw3.kn;have hEw3:=hIw3.fin;have hEbw3:=Wq hfw3 _ (Nat.le_refl _);have hpnw3:=hfw3.pn
  rw[hw1.size]at hLw3 hOw3
  have hnw3:z+1≤w3.heap.size:=AY hw1 hkw3
  refine⟨_,_,rfl,hw1.KZ hkw3, ?_⟩
  refine EG 15 0 [0] [[o0,o0,o0,o0,(an 4 3),o0],[o0,o0],[o0,(a1 3),o0,(a1 1),(ov (i6 (lw3.End - c.Kernel))),o0,o0]] [Qb w3.heap.size,Qb w3.heap.size,Qb w3.heap.size,Qb w3.heap.size,Qb w3.heap.size,Qb z,Wr ((lw3.End:Int) - c.Kernel) (lw3.End - c.Kernel)] [(2,i6 (lw3.End - c.Kernel)),(3,i6 0)] ⟨w,w3.heap.size+1,[(Ak w),(bk z (Ai.arr c) 27),(mid (z+1) w3),(.blk w3.heap.size (.cells (IE.arr lw3) 172 (0,0)) true)]⟩ rfl ⟨rfl,rfl,rfl,rfl,rfl,rfl,Dk,Ae⟩ ?_
  refine AP [] [] (.tuple #[i6 (lw3.End - c.Kernel),i6 0]) Ae ?_
  intro w4 hw4
  refine⟨?_,Au hw4⟩
  unfold Nw errOf;rw[if_pos hok2,if_pos hok2];rw[←hEw3]
 refine(of_no w1 c (hc.ext (hw1.ext rfl) (fun _ h=>h)) (Bool.eq_false_iff.2 hok2)).mono ?_
 rintro e w5 ⟨rfl,hkw5⟩
 have hnw5:z+1≤w5.heap.size:=AY hw1 hkw5
 refine⟨_,_,rfl,hw1.keeps hkw5, ?_⟩
 refine EG 13 0 [1] [[o0,o0,o0,o0,(an 4 2),o0],[o0,o0],[o0,o0,o0]] [Qb w5.heap.size,Qb w5.heap.size,Qb w5.heap.size,Qb w5.heap.size] [(2,i6 0),(3,i6 150)] ⟨w,w5.heap.size+1,[(Ak w),(bk z (Ai.arr c) 27),(.blk w5.heap.size (.cells #[i6 0,.slice none 0 0,.slice none 0 0,i6 0] 172 (0,0)) true)]⟩ rfl ⟨rfl,rfl,rfl,rfl,Ae⟩ ?_
 refine AP [] [] (.tuple #[i6 0,i6 150]) Ae ?_
 intro w6 hw6
 refine⟨?_,Au hw6⟩
 unfold Nw errOf;rw[if_neg hok2,if_neg hok2]
end Go.Proofs.YtekjfiegdpoajaaGreatDoor.Ly
namespace Go.Proofs.YtekjfiegdpoajaaGreatDoor.Ad
open Go Go.Proofs.YtekjfiegdpoajaaGreatDoor.Eng Go.Proofs.YtekjfiegdpoajaaGreatDoor.Mem Go.Proofs.YtekjfiegdpoajaaGreatDoor.Ly
set_option linter.unusedSimpArgs false
set_option linter.unusedVariables false
set_option maxRecDepth 100000
def Yf(c:Ai)(q n:Nat):Bool:=meet (Ep c q n).Frame (Ep c q n).BO c.Kernel c.Room
def VK(c:Ai)(q:Nat):Bool:=(List.range (FY c q).Ah.xs.length).any (Yf c q)
def Ii(c:Ai):Bool:=win c.Kernel 0 (c.Frames - 1)&&win c.Room 1 (c.Frames - c.Kernel) && !(List.range c.Ac.xs.length).any (VK c)&&(decide (errOf c=0)&&decide (Nw c≤c.Room))
section
variable (n12:Nat)(y21:Ap)(z:Nat)(c:Ai)(b14 o15:Nat)(b25 o26:Nat)
abbrev RD:=bk n12 (Ap.arr y21) 57
abbrev MR:=bk z (Ai.arr c) 27
abbrev La:Dv:=(28,.slice (some ⟨b14,o15,none⟩) c.Ac.xs.length c.Ac.cap)
abbrev Ul:Dv:=(35,.slice (some ⟨b25,o26,none⟩) y21.Ah.xs.length y21.Ah.cap)
abbrev Q9:Dv:=(28,.slice c.Ac.a c.Ac.xs.length c.Ac.cap)
abbrev RI:Dv:=(35,.slice y21.Ah.a y21.Ah.xs.length y21.Ah.cap)
abbrev Jo:=(29,Aa c.Ac.xs.length)
abbrev NI:=(36,Aa y21.Ah.xs.length)
end
theorem kernel_calls(w:World)(hL:Gf w)(c:Ai)(hc:Ai.ok Any w c)(hFr:1≤c.Frames∧c.Frames≤1024)(hpf:∀ q,q<c.Ac.xs.length→Es c q=DF):Calls Tryz.prog 84 #[.agg (Ai.arr c)] w fun e w'=>e = .returned (.bool (Ii c))∧BH (fun _=>False) w w':=by
 obtain⟨z,hz⟩:∃ z,z=w.heap.size:=⟨_,rfl⟩
 refine BA (args:=[.agg (Ai.arr c)]) 65 ⟨w,z,[(Ak w)]⟩ Tryz.func84 rfl (by kernel_rfl) (by kernel_rfl) (En hz) ?_
 have hpl:=hc.Ac.1.len;have hkk:(-9223372036854775808:Int)≤c.Kernel∧c.Kernel≤9223372036854775807:=hc.Kernel;have hrr:(-9223372036854775808:Int)≤c.Room∧c.Room≤9223372036854775807:=hc.Room
 refine Cc [0] [(0,.agg (Ai.arr c))] ?_
 refine q_c 7 5 [] [[o0,o0],[o0,(a1 1),o0,(a1 1),(ov (i6 (c.Frames - 1)))]] [Qb z,Qb z,Wr ((c.Frames:Int) - 1) (c.Frames - 1)] [(1,pt z),(10,i6 c.Kernel),(13,i6 (c.Frames - 1))] ⟨w,z+1,[(Ak w),(MR z c)]⟩ rfl ⟨rfl,rfl,Dk,Ae⟩ ?_
 refine BV 72 #[i6 c.Kernel,i6 0,i6 (c.Frames - 1)] (some 14) (.bool (win c.Kernel 0 (c.Frames - 1))) (fun w1 hw1=>BQ w1 c.Kernel 0 (c.Frames - 1)) (fun n2 (hn3:z+1≤n2) => ?_)
 refine CZ [1,14] [(1,pt z),(14,.bool (win c.Kernel 0 (c.Frames - 1)))] ?_
 by_cases h4:(win c.Kernel 0 (c.Frames - 1))=true
 ·have hd5:=Iz h4
  refine Bv 0 9 [] [[(ov (.bool false)),o0,o0,(a1 1),o0,(a1 1),o0,(a1 1),(ov (i6 (c.Frames - c.Kernel)))]] [Value.bool (!(win c.Kernel 0 (c.Frames - 1)))=Value.bool false,Qb z,Qb z,Qb z,Wr ((c.Frames:Int) - c.Kernel) (c.Frames - c.Kernel)] [(1,pt z),(16,.bool false),(18,i6 c.Room),(23,i6 (c.Frames - c.Kernel))] rfl ⟨by simp[h4],rfl,rfl,rfl,Dk,Ae⟩ ?_
  refine BV 72 #[i6 c.Room,i6 1,i6 (c.Frames - c.Kernel)] (some 24) (.bool (win c.Room 1 (c.Frames - c.Kernel))) (fun w6 hw6=>BQ w6 c.Room 1 (c.Frames - c.Kernel)) (fun n7 (hn8:n2≤n7) => ?_)
  refine CZ [1,16,24] [(1,pt z),(16,.bool false),(24,.bool (win c.Room 1 (c.Frames - c.Kernel)))] ?_
  by_cases h9:(win c.Room 1 (c.Frames - c.Kernel))=true
  ·have hd10:=Iz h9
   refine Bv 11 0 [0] [[(ov (.bool false)),o0],[o0,(a1 1),o0,o0]] [Value.bool (!(win c.Room 1 (c.Frames - c.Kernel)))=Value.bool false,Qb z] [(1,pt z),(Q9 c),(Jo c),(30,i6 0)] rfl ⟨by simp[h9],rfl,Ae⟩ ?_
   refine DI (fun m a w'=>∃ (n12:Nat) (q:Nat),m=c.Ac.xs.length - q∧n7≤n12∧(q≤c.Ac.xs.length)∧(∀ a,a<q→VK c a=false)∧St 65 [(1,pt z),(Q9 c),(Jo c),(30,Aa q)] [] ⟨w,n12,[(Ak w),(MR z c)]⟩ a w') (c.Ac.xs.length - 0) ?_ ?_
   ·intro a w' hs;exact⟨n7,0,rfl,Nat.le_refl _,Nat.zero_le _,fun i hi=>absurd hi (Nat.not_lt_zero i),hs⟩
   rintro m a w' ⟨n12,q,rfl,hn11,hkq,hg,hs⟩
   refine(?_:G Tryz.prog 65 [(1,pt z),(Q9 c),(Jo c),(30,Aa q)] [] ⟨w,n12,[(Ak w),(MR z c)]⟩ _ _ _) a w' hs
   clear hs a w'
   refine Dl ?_
   by_cases h13:(q:Int)<(c.Ac.xs.length:Int)
   ·refine A8 10 0 [1] [[oT]] [BT ((q:Int)<(c.Ac.xs.length:Int))] [(1,pt z),(Q9 c),(Jo c),(30,Aa q),(31,.bool true)] rfl ⟨bt,Ae⟩ ?_
    obtain⟨b14,o15,ha16,hF18,hc17⟩:=(hc.Ac).1.all (show 0<c.Ac.xs.length by omega)
    replace ha16:c.Ac.a=some ⟨b14,o15,none⟩:=ha16
    refine J4 [(1,pt z),(La c b14 o15),(Jo c),(30,Aa q),(31,.bool true)] (by(try dsimp only[MR,La,Q9,Jo]);simp only[ha16]) ?_
    have hc19:=hc17 q (show q<c.Ac.xs.length by omega)
    have he20:=(hc.Ac).2 q (show q<c.Ac.xs.length by omega)
    obtain⟨y21,hy21⟩:∃ y_,y_=gd c.Ac.xs q:=⟨_,rfl⟩
    rw[←hy21]at he20 hc19
    have hyly21:=he20.Ah.1.len
    refine q_c 8 0 [] [[(oi q),(ol 0 (Ap.arr y21)),o0,(an 8 2)],[o0,(a1 2),o0,o0]] [Ea q,q<c.Ac.xs.length,Ec,Hu w b14 (o15+q*8) (Ap.arr y21),Qb n12,Qb n12,Qb n12,Qb n12,Qb n12,Qb n12,Qb n12,Qb n12,Qb n12] [(1,pt z),(La c b14 o15),(Jo c),(30,Aa q),(RI y21),(NI y21),(37,i6 0)] ⟨w,n12+1,[(Ak w),(MR z c),(RD n12 y21)]⟩ rfl ⟨rfl,(by omega),rfl,EE hc19,rfl,rfl,rfl,rfl,rfl,rfl,rfl,rfl,rfl,Ae⟩ ?_
    refine DI (fun m a w'=>∃ (n23:Nat) (n:Nat),m=y21.Ah.xs.length - n∧n12+1≤n23∧(n≤y21.Ah.xs.length)∧(∀ a,a<n→Yf c q a=false)∧St 65 [(1,pt z),(La c b14 o15),(Jo c),(30,Aa q),(RI y21),(NI y21),(37,Aa n)] [] ⟨w,n23,[(Ak w),(MR z c),(RD n12 y21)]⟩ a w') (y21.Ah.xs.length - 0) ?_ ?_
    ·intro a w' hs;exact⟨(n12+1),0,rfl,Nat.le_refl _,Nat.zero_le _,fun i hi=>absurd hi (Nat.not_lt_zero i),hs⟩
    rintro m a w' ⟨n23,n,rfl,hn22,hkn,hh,hs⟩
    refine(?_:G Tryz.prog 65 [(1,pt z),(La c b14 o15),(Jo c),(30,Aa q),(RI y21),(NI y21),(37,Aa n)] [] ⟨w,n23,[(Ak w),(MR z c),(RD n12 y21)]⟩ _ _ _) a w' hs
    clear hs a w'
    refine Dl ?_
    by_cases h24:(n:Int)<(y21.Ah.xs.length:Int)
    ·refine A8 10 0 [1] [[oT]] [BT ((n:Int)<(y21.Ah.xs.length:Int))] [(1,pt z),(La c b14 o15),(Jo c),(30,Aa q),(RI y21),(NI y21),(37,Aa n),(38,.bool true)] rfl ⟨bt,Ae⟩ ?_
     obtain⟨b25,o26,ha27,hF29,hc28⟩:=(he20.Ah).1.all (show 0<y21.Ah.xs.length by omega)
     replace ha27:y21.Ah.a=some ⟨b25,o26,none⟩:=ha27
     refine J4 [(1,pt z),(La c b14 o15),(Jo c),(30,Aa q),(Ul y21 b25 o26),(NI y21),(37,Aa n),(38,.bool true)] (by(try dsimp only[RD,MR,La,Ul,Q9,RI,Jo,NI]);simp only[ha27]) ?_
     have hc30:=hc28 n (show n<y21.Ah.xs.length by omega)
     have he31:=(he20.Ah).2 n (show n<y21.Ah.xs.length by omega)
     obtain⟨y32,hy32⟩:∃ y_,y_=gd y21.Ah.xs n:=⟨_,rfl⟩
     rw[←hy32]at he31 hc30
     refine q_c 5 8 [] [[(oi n),(ol 0 (AX.arr y32)),o0,(an 4 3)],[o0,(a1 3),o0,(a1 3),o0,(a1 1),o0,(a1 1)]] [Ea n,n<y21.Ah.xs.length,Ec,Hu w b25 (o26+n*4) (AX.arr y32),Qb n23,Qb n23,Qb n23,Qb n23,Qb n23,Qb n23,Qb z,Qb z] [(1,pt z),(La c b14 o15),(Jo c),(30,Aa q),(Ul y21 b25 o26),(NI y21),(37,Aa n),(42,i6 y32.Frame),(44,i6 y32.BO),(46,i6 c.Kernel),(48,i6 c.Room)] ⟨w,n23+1,[(Ak w),(MR z c),(RD n12 y21),(bk n23 (AX.arr y32) 64)]⟩ rfl ⟨rfl,(by omega),rfl,EE hc30,rfl,rfl,rfl,rfl,rfl,rfl,rfl,rfl,Ae⟩ ?_
     have hm34:=VN hFr.2 (VD (hpf q (by omega))) n (by dsimp only[FY];rw[←hy21];omega);dsimp only[Ep]at hm34;rw[←hy21,←hy32]at hm34;unfold Bd at hm34
     refine BV 115 #[i6 y32.Frame,i6 y32.BO,i6 c.Kernel,i6 c.Room] (some 49) (.bool (meet y32.Frame y32.BO c.Kernel c.Room)) (fun w33 hw33=>SC w33 y32.Frame y32.BO c.Kernel c.Room (by omega) (by omega) (by omega) (by omega)) (fun n35 (hn36:n23+1≤n35) => ?_)
     refine CZ [1,28,29,30,35,36,37,49] [(1,pt z),(La c b14 o15),(Jo c),(30,Aa q),(Ul y21 b25 o26),(NI y21),(37,Aa n),(49,.bool (meet y32.Frame y32.BO c.Kernel c.Room))] ?_
     refine LX (by kernel_rfl) ?_
     refine FX ?_
     by_cases h37:(meet y32.Frame y32.BO c.Kernel c.Room)=true
     ·refine A8 6 0 [3] [[o0]] [Value.bool (meet y32.Frame y32.BO c.Kernel c.Room)=Value.bool true] [(2,.bool false)] rfl ⟨(congrArg Value.bool h37),Ae⟩ ?_
      refine AP [] [] (.bool false) Ae ?_
      intro w38 hw38
      refine⟨congrArg (fun b=>Ending.returned (Value.bool b)) (?_:false=Ii c),Au hw38⟩
      have en:Ep c q n=y32:=(by dsimp only[Ep];rw[←hy21,←hy32])
      have eo:(List.range c.Ac.xs.length).any (VK c)=true:=range_any (k:=q) (by omega) (range_any (k:=n) (by dsimp only[FY];rw[←hy21];omega) (by unfold Yf;rw[en];exact h37))
      unfold Ii;simp[eo]
     refine A8 6 0 [2] [[(ov (i6 ((n+1:Nat):Int))),o0]] [Value.bool (meet y32.Frame y32.BO c.Kernel c.Room)=Value.bool false,Wr ((n:Int)+1) (((n+1:Nat):Int))] [(1,pt z),(La c b14 o15),(Jo c),(30,Aa q),(Ul y21 b25 o26),(NI y21),(37,i6 ((n+1:Nat):Int))] rfl ⟨(congrArg Value.bool (Bool.eq_false_iff.2 h37)),Dk,Ae⟩ ?_
     refine C9 [0,1,2] [(Ak w),(MR z c),(RD n12 y21)] rfl rfl ?_
     refine Gw [1,28,29,30,35,36,37] [(1,pt z),(La c b14 o15),(Jo c),(30,Aa q),(RI y21),(NI y21),(37,i6 ((n+1:Nat):Int))] (by(try dsimp only[RD,MR,La,Ul,Q9,RI,Jo,NI]);simp only[ha27];rfl) ?_
     refine CS (fun a w' hs=>⟨y21.Ah.xs.length - (n+1),by omega,n35,(n+1),rfl,by omega,by omega,Ia hh (by have en:Ep c q n=y32:=(by dsimp only[Ep];rw[←hy21,←hy32]);unfold Yf;rw[en];simpa using h37),hs⟩)
    refine A8 13 0 [0] [[oF],[(ov (i6 ((q+1:Nat):Int))),o0]] [BF ((n:Int)<(y21.Ah.xs.length:Int)),Wr ((q:Int)+1) (((q+1:Nat):Int))] [(1,pt z),(La c b14 o15),(Jo c),(30,i6 ((q+1:Nat):Int))] rfl ⟨bf,Dk,Ae⟩ ?_
    refine C9 [0,1] [(Ak w),(MR z c)] rfl rfl ?_
    refine Gw [1,28,29,30] [(1,pt z),(Q9 c),(Jo c),(30,i6 ((q+1:Nat):Int))] (by(try dsimp only[RD,MR,La,Ul,Q9,RI,Jo,NI]);simp only[ha16];rfl) ?_
    refine CS (fun a w' hs=>⟨c.Ac.xs.length - (q+1),by omega,n23,(q+1),rfl,by omega,by omega,Ia hg (JV (fun i hi=>hh i (by dsimp only[FY]at hi;rw[←hy21]at hi;omega))),hs⟩)
   refine A8 12 1 [0] [[oF],[(an 7 1)]] [BF ((q:Int)<(c.Ac.xs.length:Int)),Qb z,Qb z,Qb z,Qb z,Qb z,Qb z,Qb z] [(1,pt z),(53,.agg (Ai.arr c))] rfl ⟨bf,rfl,rfl,rfl,rfl,rfl,rfl,rfl,Ae⟩ ?_
   refine BV 116 #[.agg (Ai.arr c)] (some 54) (.tuple #[i6 (Nw c),i6 (errOf c)]) (fun w39 hw39=>need_calls w39 c (hc.ext (hw39.ext rfl) (fun _ h=>h))) (fun n40 (hn41:n12≤n40) => ?_)
   refine Bv 3 0 [] [[o0,o0,o0,o0,o0]] [] [(1,pt z),(7,i6 (Nw c)),(8,i6 (errOf c))] rfl Ae ?_
   by_cases h42:(errOf c:Int)=0
   ·by_cases h43:(c.Room:Int)<Nw c
    ·refine A8 4 0 [] [[o0,oT,o0,o0,o0,(a1 1),oF,o0,o0]] [ET (errOf c) 0,Qb z,BF ((Nw c:Int)≤c.Room)] [(2,.bool false)] rfl ⟨et,rfl,bf,Ae⟩ ?_
     refine AP [] [] (.bool false) Ae ?_
     intro w44 hw44
     refine⟨congrArg (fun b=>Ending.returned (Value.bool b)) (?_:false=Ii c),Au hw44⟩
     have eo:(List.range c.Ac.xs.length).any (VK c)=false:=JV (fun i hi=>hg i (by omega))
     unfold Ii;rw[eo];simp[h4,h9];first | done | omega
    refine A8 4 0 [] [[o0,oT,o0,o0,o0,(a1 1),oT,o0,o0]] [ET (errOf c) 0,Qb z,BT ((Nw c:Int)≤c.Room)] [(2,.bool true)] rfl ⟨et,rfl,bt,Ae⟩ ?_
    refine AP [] [] (.bool true) Ae ?_
    intro w45 hw45
    refine⟨congrArg (fun b=>Ending.returned (Value.bool b)) (?_:true=Ii c),Au hw45⟩
    have eo:(List.range c.Ac.xs.length).any (VK c)=false:=JV (fun i hi=>hg i (by omega))
    unfold Ii;rw[eo];simp[h4,h9];first | done | omega
   refine A8 4 0 [] [[o0,oF,o0,o0,o0]] [EF (errOf c) 0] [(2,.bool false)] rfl ⟨ef,Ae⟩ ?_
   refine AP [] [] (.bool false) Ae ?_
   intro w46 hw46
   refine⟨congrArg (fun b=>Ending.returned (Value.bool b)) (?_:false=Ii c),Au hw46⟩
   have eo:(List.range c.Ac.xs.length).any (VK c)=false:=JV (fun i hi=>hg i (by omega))
   unfold Ii;rw[eo];simp[h4,h9];first | done | omega
  have hd47:=KL h9
  refine Bv 8 0 [1] [[(ov (.bool true)),o0],[o0]] [Value.bool (!(win c.Room 1 (c.Frames - c.Kernel)))=Value.bool true] [(2,.bool false)] rfl ⟨by simp[h9],Ae⟩ ?_
  refine AP [] [] (.bool false) Ae ?_
  intro w48 hw48
  refine⟨congrArg (fun b=>Ending.returned (Value.bool b)) (?_:false=Ii c),Au hw48⟩
  unfold Ii;simp[h4,h9]
 have hd49:=KL h4
 refine Bv 8 0 [1] [[(ov (.bool true)),o0,o0],[o0]] [Value.bool (!(win c.Kernel 0 (c.Frames - 1)))=Value.bool true] [(2,.bool false)] rfl ⟨by simp[h4],Ae⟩ ?_
 refine AP [] [] (.bool false) Ae ?_
 intro w50 hw50
 refine⟨congrArg (fun b=>Ending.returned (Value.bool b)) (?_:false=Ii c),Au hw50⟩
 unfold Ii;simp[h4]
def Ht(c:Ai):Am:=Af (win c.Frames 1 1024) 400 ⟨-1, -1⟩
def whole2(c:Ai):Am:=Af (win c.DD 1 16384) 401 ⟨-1, -1⟩
def Ha(c:Ai):Am:=Af (win (c.Ar.xs.length:Int) 1 4) 402 ⟨-1, -1⟩
def Hf(c:Ai):Am:=Af (win (c.Ac.xs.length:Int) 1 8) 403 ⟨-1, -1⟩
def GR(c:Ai):Am:=Af (decide ((c.Aj.xs.length:Int)≤16)) 404 ⟨-1, -1⟩
def I8(c:Ai):Am:=Af (Ii c) 423 ⟨-1, -1⟩
theorem q1_calls(w:World)(hL:Gf w)(c:Ai)(hc:Ai.ok Any w c)(bc:Nat)(hbc:∀ (k:Nat) (v:Value),(Ai.cells c)[k]? = some v→w.cell? ⟨bc,0+k,none⟩=some v):Calls Tryz.prog 70 #[.pointer (some ⟨bc,0,none⟩)] w fun e w'=>e = .returned (.agg (Am.arr (Ht c)))∧BH (fun _=>False) w w':=by
 obtain⟨z,hz⟩:∃ z,z=w.heap.size:=⟨_,rfl⟩
 refine BA (args:=[pt bc]) 7 ⟨w,z,[(Ak w)]⟩ Tryz.func70 rfl (by kernel_rfl) (by kernel_rfl) (En hz) ?_
 have hpl:=hc.Ac.1.len;have hpc:=hc.Ar.1.len;have hpch:=hc.Aj.1.len
 refine Cc [0] [(0,pt bc)] ?_
 refine q_c 5 0 [] [[o0]] [] [(0,pt bc),(1,pt z)] ⟨w,z+1,[(Ak w),(bk z #[i6 0,i6 0,i6 0] 98)]⟩ rfl Ae ?_
 refine DK 5 [0,1] [(Ak w),(bk z #[i6 0,i6 0,i6 0] 98)] rfl rfl ?_
 refine JP [.tk 0 o0,.tk 1 (oa [.via 0 (i6 c.Frames)]),.tk 3 (oa [.via 0 (i6 (-1)),.via 0 (i6 (-1))]),.cl 2 (.bool (win c.Frames 1 1024)),.cl 4 (.agg (Am.arr (Af (win c.Frames 1 1024) 400 ⟨-1, -1⟩)))] [1,6] [(72,#[i6 c.Frames,i6 1,i6 1024],.bool (win c.Frames 1 1024)),(71,#[.bool (win c.Frames 1 1024),i6 400,.agg #[i6 (-1),i6 (-1)]],.agg (Am.arr (Af (win c.Frames 1 1024) 400 ⟨-1, -1⟩)))] (Dy 5 1) [Old w bc 0 (i6 c.Frames),Old w 1 0 (i6 (-1)),Old w 1 1 (i6 (-1))] [(1,pt z),(6,.agg (Am.arr (Af (win c.Frames 1 1024) 400 ⟨-1, -1⟩)))] [0,1] ⟨Aw (hbc 0 _ rfl),Aw (hL.1 0 _ rfl),Aw (hL.1 1 _ rfl),Ae⟩ ⟨fun w1 hw1=>BQ w1 c.Frames 1 1024,fun w2 hw2=>Bg w2 (hL.ext (hw2.ext rfl)) (win c.Frames 1 1024) 400 (-1) (-1),Ae⟩ (fun n3 hn4 => ?_)
 replace hn4:z+1≤n3:=hn4
 refine AV 5 ?_
 refine Bi (an 3 1) [1] [Qb z,Qb z,Qb z] [(1,pt z)] ⟨w,n3,[(Ak w),(.blk z (.cells (Am.arr (Af (win c.Frames 1 1024) 400 ⟨-1, -1⟩)) 98 (0,0)) true)]⟩ [] ⟨rfl,rfl,rfl,Ae⟩ (.inl rfl) ?_
 refine D9 6 [0,1] [(Ak w),(.blk z (.cells (Am.arr (Af (win c.Frames 1 1024) 400 ⟨-1, -1⟩)) 98 (0,0)) true)] rfl rfl ?_
 refine CQ ?_
 refine Cb [1] [(1,pt z)] ?_
 refine FX <| Jh <| AP [.at 1,.at 1,.at 1] [Qb z,Qb z,Qb z] (.agg #[i6 ((Af (win c.Frames 1 1024) 400 ⟨-1, -1⟩).e),i6 ((Af (win c.Frames 1 1024) 400 ⟨-1, -1⟩).Ag.First),i6 ((Af (win c.Frames 1 1024) 400 ⟨-1, -1⟩).Ag.Second)]) ⟨rfl,rfl,rfl,Ae⟩ ?_
 intro w5 hw5
 exact⟨congrArg (fun t=>Ending.returned (Value.agg (Am.arr t))) (show(Af (win c.Frames 1 1024) 400 ⟨-1, -1⟩)=Ht c from by unfold Ht;first | rfl | rw[decide_eq_false (by omega)] | rw[decide_eq_true (by omega)]),Au hw5⟩
theorem q2_calls(w:World)(hL:Gf w)(c:Ai)(hc:Ai.ok Any w c)(bc:Nat)(hbc:∀ (k:Nat) (v:Value),(Ai.cells c)[k]? = some v→w.cell? ⟨bc,0+k,none⟩=some v):Calls Tryz.prog 73 #[.pointer (some ⟨bc,0,none⟩)] w fun e w'=>e = .returned (.agg (Am.arr (whole2 c)))∧BH (fun _=>False) w w':=by
 obtain⟨z,hz⟩:∃ z,z=w.heap.size:=⟨_,rfl⟩
 refine BA (args:=[pt bc]) 7 ⟨w,z,[(Ak w)]⟩ Tryz.func73 rfl (by kernel_rfl) (by kernel_rfl) (En hz) ?_
 have hpl:=hc.Ac.1.len;have hpc:=hc.Ar.1.len;have hpch:=hc.Aj.1.len
 refine Cc [0] [(0,pt bc)] ?_
 refine q_c 5 0 [] [[o0]] [] [(0,pt bc),(1,pt z)] ⟨w,z+1,[(Ak w),(bk z #[i6 0,i6 0,i6 0] 98)]⟩ rfl Ae ?_
 refine DK 5 [0,1] [(Ak w),(bk z #[i6 0,i6 0,i6 0] 98)] rfl rfl ?_
 refine JP [.tk 0 o0,.tk 1 (oa [.via 0 (i6 c.DD)]),.tk 3 (oa [.via 0 (i6 (-1)),.via 0 (i6 (-1))]),.cl 2 (.bool (win c.DD 1 16384)),.cl 4 (.agg (Am.arr (Af (win c.DD 1 16384) 401 ⟨-1, -1⟩)))] [1,6] [(72,#[i6 c.DD,i6 1,i6 16384],.bool (win c.DD 1 16384)),(71,#[.bool (win c.DD 1 16384),i6 401,.agg #[i6 (-1),i6 (-1)]],.agg (Am.arr (Af (win c.DD 1 16384) 401 ⟨-1, -1⟩)))] (Dy 5 1) [Old w bc 1 (i6 c.DD),Old w 1 0 (i6 (-1)),Old w 1 1 (i6 (-1))] [(1,pt z),(6,.agg (Am.arr (Af (win c.DD 1 16384) 401 ⟨-1, -1⟩)))] [0,1] ⟨Aw (hbc 1 _ rfl),Aw (hL.1 0 _ rfl),Aw (hL.1 1 _ rfl),Ae⟩ ⟨fun w1 hw1=>BQ w1 c.DD 1 16384,fun w2 hw2=>Bg w2 (hL.ext (hw2.ext rfl)) (win c.DD 1 16384) 401 (-1) (-1),Ae⟩ (fun n3 hn4 => ?_)
 replace hn4:z+1≤n3:=hn4
 refine AV 5 ?_
 refine Bi (an 3 1) [1] [Qb z,Qb z,Qb z] [(1,pt z)] ⟨w,n3,[(Ak w),(.blk z (.cells (Am.arr (Af (win c.DD 1 16384) 401 ⟨-1, -1⟩)) 98 (0,0)) true)]⟩ [] ⟨rfl,rfl,rfl,Ae⟩ (.inl rfl) ?_
 refine D9 6 [0,1] [(Ak w),(.blk z (.cells (Am.arr (Af (win c.DD 1 16384) 401 ⟨-1, -1⟩)) 98 (0,0)) true)] rfl rfl ?_
 refine CQ ?_
 refine Cb [1] [(1,pt z)] ?_
 refine FX <| Jh <| AP [.at 1,.at 1,.at 1] [Qb z,Qb z,Qb z] (.agg #[i6 ((Af (win c.DD 1 16384) 401 ⟨-1, -1⟩).e),i6 ((Af (win c.DD 1 16384) 401 ⟨-1, -1⟩).Ag.First),i6 ((Af (win c.DD 1 16384) 401 ⟨-1, -1⟩).Ag.Second)]) ⟨rfl,rfl,rfl,Ae⟩ ?_
 intro w5 hw5
 exact⟨congrArg (fun t=>Ending.returned (Value.agg (Am.arr t))) (show(Af (win c.DD 1 16384) 401 ⟨-1, -1⟩)=whole2 c from by unfold whole2;first | rfl | rw[decide_eq_false (by omega)] | rw[decide_eq_true (by omega)]),Au hw5⟩
section
variable (z:Nat)(c:Ai)
abbrev qis8_0:Ch:= .blk z (.cells (Am.arr (Af (win (c.Ar.xs.length:Int) 1 4) 402 ⟨-1, -1⟩)) 98 (0,0)) true
end
theorem q3_calls(w:World)(hL:Gf w)(c:Ai)(hc:Ai.ok Any w c)(bc:Nat)(hbc:∀ (k:Nat) (v:Value),(Ai.cells c)[k]? = some v→w.cell? ⟨bc,0+k,none⟩=some v):Calls Tryz.prog 74 #[.pointer (some ⟨bc,0,none⟩)] w fun e w'=>e = .returned (.agg (Am.arr (Ha c)))∧BH (fun _=>False) w w':=by
 obtain⟨z,hz⟩:∃ z,z=w.heap.size:=⟨_,rfl⟩
 refine BA (args:=[pt bc]) 8 ⟨w,z,[(Ak w)]⟩ Tryz.func74 rfl (by kernel_rfl) (by kernel_rfl) (En hz) ?_
 have hpl:=hc.Ac.1.len;have hpc:=hc.Ar.1.len;have hpch:=hc.Aj.1.len
 refine Cc [0] [(0,pt bc)] ?_
 refine q_c 5 0 [] [[o0]] [] [(0,pt bc),(1,pt z)] ⟨w,z+1,[(Ak w),(bk z #[i6 0,i6 0,i6 0] 98)]⟩ rfl Ae ?_
 refine DK 6 [0,1] [(Ak w),(bk z #[i6 0,i6 0,i6 0] 98)] rfl rfl ?_
 refine JP [.tk 0 o0,.tk 1 (oa [.via 0 (.slice c.Ar.a c.Ar.xs.length c.Ar.cap)]),.tk 2 o0,.tk 4 (oa [.via 0 (i6 (-1)),.via 0 (i6 (-1))]),.cl 3 (.bool (win (c.Ar.xs.length:Int) 1 4)),.cl 5 (.agg (Am.arr (Af (win (c.Ar.xs.length:Int) 1 4) 402 ⟨-1, -1⟩)))] [1,7] [(72,#[(Aa c.Ar.xs.length),i6 1,i6 4],.bool (win (c.Ar.xs.length:Int) 1 4)),(71,#[.bool (win (c.Ar.xs.length:Int) 1 4),i6 402,.agg #[i6 (-1),i6 (-1)]],.agg (Am.arr (Af (win (c.Ar.xs.length:Int) 1 4) 402 ⟨-1, -1⟩)))] (Dy 6 1) [Old w bc 4 (.slice c.Ar.a c.Ar.xs.length c.Ar.cap),Old w 1 0 (i6 (-1)),Old w 1 1 (i6 (-1))] [(1,pt z),(7,.agg (Am.arr (Af (win (c.Ar.xs.length:Int) 1 4) 402 ⟨-1, -1⟩)))] [0,1] ⟨Aw (hbc 4 _ rfl),Aw (hL.1 0 _ rfl),Aw (hL.1 1 _ rfl),Ae⟩ ⟨fun w1 hw1=>BQ w1 (c.Ar.xs.length:Int) 1 4,fun w2 hw2=>Bg w2 (hL.ext (hw2.ext rfl)) (win (c.Ar.xs.length:Int) 1 4) 402 (-1) (-1),Ae⟩ (fun n3 hn4 => ?_)
 replace hn4:z+1≤n3:=hn4
 refine AV 6 ?_
 refine Bi (an 3 1) [1] [Qb z,Qb z,Qb z] [(1,pt z)] ⟨w,n3,[(Ak w),(qis8_0 z c)]⟩ [] ⟨rfl,rfl,rfl,Ae⟩ (.inl rfl) ?_
 refine D9 7 [0,1] [(Ak w),(qis8_0 z c)] rfl rfl ?_
 refine CQ ?_
 refine Cb [1] [(1,pt z)] ?_
 refine FX <| Jh <| AP [.at 1,.at 1,.at 1] [Qb z,Qb z,Qb z] (.agg #[i6 ((Af (win (c.Ar.xs.length:Int) 1 4) 402 ⟨-1, -1⟩).e),i6 ((Af (win (c.Ar.xs.length:Int) 1 4) 402 ⟨-1, -1⟩).Ag.First),i6 ((Af (win (c.Ar.xs.length:Int) 1 4) 402 ⟨-1, -1⟩).Ag.Second)]) ⟨rfl,rfl,rfl,Ae⟩ ?_
 intro w5 hw5
 exact⟨congrArg (fun t=>Ending.returned (Value.agg (Am.arr t))) (show(Af (win (c.Ar.xs.length:Int) 1 4) 402 ⟨-1, -1⟩)=Ha c from by unfold Ha;first | rfl | rw[decide_eq_false (by omega)] | rw[decide_eq_true (by omega)]),Au hw5⟩
section
variable (z:Nat)(c:Ai)
abbrev qimu_0:Ch:= .blk z (.cells (Am.arr (Af (win (c.Ac.xs.length:Int) 1 8) 403 ⟨-1, -1⟩)) 98 (0,0)) true
end
theorem q4_calls(w:World)(hL:Gf w)(c:Ai)(hc:Ai.ok Any w c)(bc:Nat)(hbc:∀ (k:Nat) (v:Value),(Ai.cells c)[k]? = some v→w.cell? ⟨bc,0+k,none⟩=some v):Calls Tryz.prog 75 #[.pointer (some ⟨bc,0,none⟩)] w fun e w'=>e = .returned (.agg (Am.arr (Hf c)))∧BH (fun _=>False) w w':=by
 obtain⟨z,hz⟩:∃ z,z=w.heap.size:=⟨_,rfl⟩
 refine BA (args:=[pt bc]) 8 ⟨w,z,[(Ak w)]⟩ Tryz.func75 rfl (by kernel_rfl) (by kernel_rfl) (En hz) ?_
 have hpl:=hc.Ac.1.len;have hpc:=hc.Ar.1.len;have hpch:=hc.Aj.1.len
 refine Cc [0] [(0,pt bc)] ?_
 refine q_c 5 0 [] [[o0]] [] [(0,pt bc),(1,pt z)] ⟨w,z+1,[(Ak w),(bk z #[i6 0,i6 0,i6 0] 98)]⟩ rfl Ae ?_
 refine DK 6 [0,1] [(Ak w),(bk z #[i6 0,i6 0,i6 0] 98)] rfl rfl ?_
 refine JP [.tk 0 o0,.tk 1 (oa [.via 0 (.slice c.Ac.a c.Ac.xs.length c.Ac.cap)]),.tk 2 o0,.tk 4 (oa [.via 0 (i6 (-1)),.via 0 (i6 (-1))]),.cl 3 (.bool (win (c.Ac.xs.length:Int) 1 8)),.cl 5 (.agg (Am.arr (Af (win (c.Ac.xs.length:Int) 1 8) 403 ⟨-1, -1⟩)))] [1,7] [(72,#[(Aa c.Ac.xs.length),i6 1,i6 8],.bool (win (c.Ac.xs.length:Int) 1 8)),(71,#[.bool (win (c.Ac.xs.length:Int) 1 8),i6 403,.agg #[i6 (-1),i6 (-1)]],.agg (Am.arr (Af (win (c.Ac.xs.length:Int) 1 8) 403 ⟨-1, -1⟩)))] (Dy 6 1) [Old w bc 5 (.slice c.Ac.a c.Ac.xs.length c.Ac.cap),Old w 1 0 (i6 (-1)),Old w 1 1 (i6 (-1))] [(1,pt z),(7,.agg (Am.arr (Af (win (c.Ac.xs.length:Int) 1 8) 403 ⟨-1, -1⟩)))] [0,1] ⟨Aw (hbc 5 _ rfl),Aw (hL.1 0 _ rfl),Aw (hL.1 1 _ rfl),Ae⟩ ⟨fun w1 hw1=>BQ w1 (c.Ac.xs.length:Int) 1 8,fun w2 hw2=>Bg w2 (hL.ext (hw2.ext rfl)) (win (c.Ac.xs.length:Int) 1 8) 403 (-1) (-1),Ae⟩ (fun n3 hn4 => ?_)
 replace hn4:z+1≤n3:=hn4
 refine AV 6 ?_
 refine Bi (an 3 1) [1] [Qb z,Qb z,Qb z] [(1,pt z)] ⟨w,n3,[(Ak w),(qimu_0 z c)]⟩ [] ⟨rfl,rfl,rfl,Ae⟩ (.inl rfl) ?_
 refine D9 7 [0,1] [(Ak w),(qimu_0 z c)] rfl rfl ?_
 refine CQ ?_
 refine Cb [1] [(1,pt z)] ?_
 refine FX <| Jh <| AP [.at 1,.at 1,.at 1] [Qb z,Qb z,Qb z] (.agg #[i6 ((Af (win (c.Ac.xs.length:Int) 1 8) 403 ⟨-1, -1⟩).e),i6 ((Af (win (c.Ac.xs.length:Int) 1 8) 403 ⟨-1, -1⟩).Ag.First),i6 ((Af (win (c.Ac.xs.length:Int) 1 8) 403 ⟨-1, -1⟩).Ag.Second)]) ⟨rfl,rfl,rfl,Ae⟩ ?_
 intro w5 hw5
 exact⟨congrArg (fun t=>Ending.returned (Value.agg (Am.arr t))) (show(Af (win (c.Ac.xs.length:Int) 1 8) 403 ⟨-1, -1⟩)=Hf c from by unfold Hf;first | rfl | rw[decide_eq_false (by omega)] | rw[decide_eq_true (by omega)]),Au hw5⟩
theorem q5_calls(w:World)(hL:Gf w)(c:Ai)(hc:Ai.ok Any w c)(bc:Nat)(hbc:∀ (k:Nat) (v:Value),(Ai.cells c)[k]? = some v→w.cell? ⟨bc,0+k,none⟩=some v):Calls Tryz.prog 76 #[.pointer (some ⟨bc,0,none⟩)] w fun e w'=>e = .returned (.agg (Am.arr (GR c)))∧BH (fun _=>False) w w':=by
 obtain⟨z,hz⟩:∃ z,z=w.heap.size:=⟨_,rfl⟩
 refine BA (args:=[pt bc]) 8 ⟨w,z,[(Ak w)]⟩ Tryz.func76 rfl (by kernel_rfl) (by kernel_rfl) (En hz) ?_
 have hpl:=hc.Ac.1.len;have hpc:=hc.Ar.1.len;have hpch:=hc.Aj.1.len
 refine Cc [0] [(0,pt bc)] ?_
 refine q_c 5 0 [] [[o0]] [] [(0,pt bc),(1,pt z)] ⟨w,z+1,[(Ak w),(bk z #[i6 0,i6 0,i6 0] 98)]⟩ rfl Ae ?_
 by_cases h1:(16:Int)<(c.Aj.xs.length:Int)
 ·refine A8 1 5 [] [[o0,(oa [.via 0 (.slice c.Aj.a c.Aj.xs.length c.Aj.cap)]),o0,oF,(oa [.via 0 (i6 (-1)),.via 0 (i6 (-1))])]] [Old w bc 6 (.slice c.Aj.a c.Aj.xs.length c.Aj.cap),BF ((c.Aj.xs.length:Int)≤16),Old w 1 0 (i6 (-1)),Old w 1 1 (i6 (-1))] [(1,pt z),(5,.bool false),(6,.agg #[i6 (-1),i6 (-1)])] rfl ⟨Aw (hbc 6 _ rfl),bf,Aw (hL.1 0 _ rfl),Aw (hL.1 1 _ rfl),Ae⟩ ?_
  refine BV 71 #[.bool false,i6 404,.agg #[i6 (-1),i6 (-1)]] (some 7) (.agg (Am.arr (Af false 404 ⟨-1, -1⟩))) (fun w2 hw2=>Bg w2 (hL.ext (hw2.ext rfl)) false 404 (-1) (-1)) (fun n3 (hn4:z+1≤n3) => ?_)
  refine EG 3 0 [] [[(an 3 1)]] [Qb z,Qb z,Qb z] [(1,pt z)] ⟨w,n3,[(Ak w),(bk z (Am.arr (Af false 404 ⟨-1, -1⟩)) 98)]⟩ rfl ⟨rfl,rfl,rfl,Ae⟩ ?_
  refine AP [.at 1,.at 1,.at 1] [Qb z,Qb z,Qb z] (.agg #[i6 ((Af false 404 ⟨-1, -1⟩).e),i6 ((Af false 404 ⟨-1, -1⟩).Ag.First),i6 ((Af false 404 ⟨-1, -1⟩).Ag.Second)]) ⟨rfl,rfl,rfl,Ae⟩ ?_
  intro w5 hw5
  exact⟨congrArg (fun t=>Ending.returned (Value.agg (Am.arr t))) (show(Af false 404 ⟨-1, -1⟩)=GR c from by unfold GR;first | rfl | rw[decide_eq_false (by omega)] | rw[decide_eq_true (by omega)]),Au hw5⟩
 refine A8 1 5 [] [[o0,(oa [.via 0 (.slice c.Aj.a c.Aj.xs.length c.Aj.cap)]),o0,oT,(oa [.via 0 (i6 (-1)),.via 0 (i6 (-1))])]] [Old w bc 6 (.slice c.Aj.a c.Aj.xs.length c.Aj.cap),BT ((c.Aj.xs.length:Int)≤16),Old w 1 0 (i6 (-1)),Old w 1 1 (i6 (-1))] [(1,pt z),(5,.bool true),(6,.agg #[i6 (-1),i6 (-1)])] rfl ⟨Aw (hbc 6 _ rfl),bt,Aw (hL.1 0 _ rfl),Aw (hL.1 1 _ rfl),Ae⟩ ?_
 refine BV 71 #[.bool true,i6 404,.agg #[i6 (-1),i6 (-1)]] (some 7) (.agg (Am.arr (Af true 404 ⟨-1, -1⟩))) (fun w6 hw6=>Bg w6 (hL.ext (hw6.ext rfl)) true 404 (-1) (-1)) (fun n7 (hn8:z+1≤n7) => ?_)
 refine EG 3 0 [] [[(an 3 1)]] [Qb z,Qb z,Qb z] [(1,pt z)] ⟨w,n7,[(Ak w),(bk z (Am.arr (Af true 404 ⟨-1, -1⟩)) 98)]⟩ rfl ⟨rfl,rfl,rfl,Ae⟩ ?_
 refine AP [.at 1,.at 1,.at 1] [Qb z,Qb z,Qb z] (.agg #[i6 ((Af true 404 ⟨-1, -1⟩).e),i6 ((Af true 404 ⟨-1, -1⟩).Ag.First),i6 ((Af true 404 ⟨-1, -1⟩).Ag.Second)]) ⟨rfl,rfl,rfl,Ae⟩ ?_
 intro w9 hw9
 exact⟨congrArg (fun t=>Ending.returned (Value.agg (Am.arr t))) (show(Af true 404 ⟨-1, -1⟩)=GR c from by unfold GR;first | rfl | rw[decide_eq_false (by omega)] | rw[decide_eq_true (by omega)]),Au hw9⟩
theorem q6_calls(w:World)(hL:Gf w)(c:Ai)(hc:Ai.ok Any w c)(bc:Nat)(hbc:∀ (k:Nat) (v:Value),(Ai.cells c)[k]? = some v→w.cell? ⟨bc,0+k,none⟩=some v)(b p:Nat)(hb:∀ (k:Nat) (v:Value),[Value.int .i64 (p:Nat)][k]? = some v→w.cell? ⟨b,0+k,none⟩=some v)(hp:p<c.Ac.xs.length)(hFr:1≤c.Frames∧c.Frames≤1024)(hpf:∀ q,q<p→Es c q=DF):Calls Tryz.prog 77 #[.pointer (some ⟨bc,0,none⟩),.pointer (some ⟨b,0,none⟩)] w fun e w'=>e = .returned (.agg (Am.arr (Es c p)))∧BH (fun _=>False) w w':=by
 obtain⟨z,hz⟩:∃ z,z=w.heap.size:=⟨_,rfl⟩
 refine BA (args:=[pt bc,pt b]) 6 ⟨w,z,[(Ak w)]⟩ Tryz.func77 rfl (by kernel_rfl) (by kernel_rfl) (En hz) ?_
 have hpl:=hc.Ac.1.len;have hpc:=hc.Ar.1.len;have hpch:=hc.Aj.1.len
 refine Cc [0,1] [(0,pt bc),(1,pt b)] ?_
 refine q_c 6 2 [] [[o0],[(ol 0 (Ai.arr c)),(oa [.via 0 (Aa p)])]] [Hu w bc 0 (Ai.arr c),Old w b 0 (Aa p)] [(2,pt z),(3,.agg (Ai.arr c)),(4,Aa p)] ⟨w,z+1,[(Ak w),(bk z #[i6 0,i6 0,i6 0] 98)]⟩ rfl ⟨EE hbc,Aw (hb 0 _ rfl),Ae⟩ ?_
 refine BV 78 #[.agg (Ai.arr c),Aa p] (some 5) (.agg (Am.arr (Es c p))) (fun w1 hw1=>LM w1 (hL.ext (hw1.ext rfl)) c (hc.ext (hw1.ext rfl) (fun _ h=>h)) p hp hFr hpf) (fun n2 (hn3:z+1≤n2) => ?_)
 refine EG 3 0 [] [[(an 3 1)]] [Qb z,Qb z,Qb z] [(2,pt z)] ⟨w,n2,[(Ak w),(bk z (Am.arr (Es c p)) 98)]⟩ rfl ⟨rfl,rfl,rfl,Ae⟩ ?_
 refine AP [.at 1,.at 1,.at 1] [Qb z,Qb z,Qb z] (.agg #[i6 ((Es c p).e),i6 ((Es c p).Ag.First),i6 ((Es c p).Ag.Second)]) ⟨rfl,rfl,rfl,Ae⟩ ?_
 intro w4 hw4
 exact⟨rfl,Au hw4⟩
theorem q7_calls(w:World)(hL:Gf w)(c:Ai)(hc:Ai.ok Any w c)(bc:Nat)(hbc:∀ (k:Nat) (v:Value),(Ai.cells c)[k]? = some v→w.cell? ⟨bc,0+k,none⟩=some v)(b p:Nat)(hb:∀ (k:Nat) (v:Value),[Value.int .i64 (p:Nat)][k]? = some v→w.cell? ⟨b,0+k,none⟩=some v)(hp:p<c.Aj.xs.length)(hm:c.Ac.xs.length≤1024)(hq:∀ p,p<c.Ac.xs.length→(gd c.Ac.xs p).Aq.xs.length≤1024):Calls Tryz.prog 79 #[.pointer (some ⟨bc,0,none⟩),.pointer (some ⟨b,0,none⟩)] w fun e w'=>e = .returned (.agg (Am.arr (Em c p)))∧BH (fun _=>False) w w':=by
 obtain⟨z,hz⟩:∃ z,z=w.heap.size:=⟨_,rfl⟩
 refine BA (args:=[pt bc,pt b]) 6 ⟨w,z,[(Ak w)]⟩ Tryz.func79 rfl (by kernel_rfl) (by kernel_rfl) (En hz) ?_
 have hpl:=hc.Ac.1.len;have hpc:=hc.Ar.1.len;have hpch:=hc.Aj.1.len
 refine Cc [0,1] [(0,pt bc),(1,pt b)] ?_
 refine q_c 6 2 [] [[o0],[(ol 0 (Ai.arr c)),(oa [.via 0 (Aa p)])]] [Hu w bc 0 (Ai.arr c),Old w b 0 (Aa p)] [(2,pt z),(3,.agg (Ai.arr c)),(4,Aa p)] ⟨w,z+1,[(Ak w),(bk z #[i6 0,i6 0,i6 0] 98)]⟩ rfl ⟨EE hbc,Aw (hb 0 _ rfl),Ae⟩ ?_
 refine BV 80 #[.agg (Ai.arr c),Aa p] (some 5) (.agg (Am.arr (Em c p))) (fun w1 hw1=>Sm w1 (hL.ext (hw1.ext rfl)) c (hc.ext (hw1.ext rfl) (fun _ h=>h)) p hp hm hq) (fun n2 (hn3:z+1≤n2) => ?_)
 refine EG 3 0 [] [[(an 3 1)]] [Qb z,Qb z,Qb z] [(2,pt z)] ⟨w,n2,[(Ak w),(bk z (Am.arr (Em c p)) 98)]⟩ rfl ⟨rfl,rfl,rfl,Ae⟩ ?_
 refine AP [.at 1,.at 1,.at 1] [Qb z,Qb z,Qb z] (.agg #[i6 ((Em c p).e),i6 ((Em c p).Ag.First),i6 ((Em c p).Ag.Second)]) ⟨rfl,rfl,rfl,Ae⟩ ?_
 intro w4 hw4
 exact⟨rfl,Au hw4⟩
theorem q8_calls(w:World)(hL:Gf w)(c:Ai)(hc:Ai.ok Any w c)(bc:Nat)(hbc:∀ (k:Nat) (v:Value),(Ai.cells c)[k]? = some v→w.cell? ⟨bc,0+k,none⟩=some v)(b p:Nat)(hb:∀ (k:Nat) (v:Value),[Value.int .i64 (p:Nat)][k]? = some v→w.cell? ⟨b,0+k,none⟩=some v)(hp:p<c.Ar.xs.length)  : Calls Tryz.prog 81 #[.pointer (some ⟨bc,0,none⟩),.pointer (some ⟨b,0,none⟩)] w fun e w'=>e = .returned (.agg (Am.arr (FU c p)))∧BH (fun _=>False) w w':=by
 obtain⟨z,hz⟩:∃ z,z=w.heap.size:=⟨_,rfl⟩
 refine BA (args:=[pt bc,pt b]) 6 ⟨w,z,[(Ak w)]⟩ Tryz.func81 rfl (by kernel_rfl) (by kernel_rfl) (En hz) ?_
 have hpl:=hc.Ac.1.len;have hpc:=hc.Ar.1.len;have hpch:=hc.Aj.1.len
 refine Cc [0,1] [(0,pt bc),(1,pt b)] ?_
 refine q_c 6 2 [] [[o0],[(ol 0 (Ai.arr c)),(oa [.via 0 (Aa p)])]] [Hu w bc 0 (Ai.arr c),Old w b 0 (Aa p)] [(2,pt z),(3,.agg (Ai.arr c)),(4,Aa p)] ⟨w,z+1,[(Ak w),(bk z #[i6 0,i6 0,i6 0] 98)]⟩ rfl ⟨EE hbc,Aw (hb 0 _ rfl),Ae⟩ ?_
 refine BV 82 #[.agg (Ai.arr c),Aa p] (some 5) (.agg (Am.arr (FU c p))) (fun w1 hw1=>Vx w1 (hL.ext (hw1.ext rfl)) c (hc.ext (hw1.ext rfl) (fun _ h=>h)) p hp) (fun n2 (hn3:z+1≤n2) => ?_)
 refine EG 3 0 [] [[(an 3 1)]] [Qb z,Qb z,Qb z] [(2,pt z)] ⟨w,n2,[(Ak w),(bk z (Am.arr (FU c p)) 98)]⟩ rfl ⟨rfl,rfl,rfl,Ae⟩ ?_
 refine AP [.at 1,.at 1,.at 1] [Qb z,Qb z,Qb z] (.agg #[i6 ((FU c p).e),i6 ((FU c p).Ag.First),i6 ((FU c p).Ag.Second)]) ⟨rfl,rfl,rfl,Ae⟩ ?_
 intro w4 hw4
 exact⟨rfl,Au hw4⟩
theorem q9_calls(w:World)(hL:Gf w)(c:Ai)(hc:Ai.ok Any w c)(bc:Nat)(hbc:∀ (k:Nat) (v:Value),(Ai.cells c)[k]? = some v→w.cell? ⟨bc,0+k,none⟩=some v)(hFr:1≤c.Frames∧c.Frames≤1024)(hpf:∀ q,q<c.Ac.xs.length→Es c q=DF):Calls Tryz.prog 83 #[.pointer (some ⟨bc,0,none⟩)] w fun e w'=>e = .returned (.agg (Am.arr (I8 c)))∧BH (fun _=>False) w w':=by
 obtain⟨z,hz⟩:∃ z,z=w.heap.size:=⟨_,rfl⟩
 refine BA (args:=[pt bc]) 6 ⟨w,z,[(Ak w)]⟩ Tryz.func83 rfl (by kernel_rfl) (by kernel_rfl) (En hz) ?_
 have hpl:=hc.Ac.1.len;have hpc:=hc.Ar.1.len;have hpch:=hc.Aj.1.len
 refine Cc [0] [(0,pt bc)] ?_
 refine q_c 5 0 [] [[o0]] [] [(0,pt bc),(1,pt z)] ⟨w,z+1,[(Ak w),(bk z #[i6 0,i6 0,i6 0] 98)]⟩ rfl Ae ?_
 refine DK 4 [0,1] [(Ak w),(bk z #[i6 0,i6 0,i6 0] 98)] rfl rfl ?_
 refine JP [.tk 0 (ol 0 (Ai.arr c)),.tk 2 (oa [.via 0 (i6 (-1)),.via 0 (i6 (-1))]),.cl 1 (.bool (Ii c)),.cl 3 (.agg (Am.arr (Af (Ii c) 423 ⟨-1, -1⟩)))] [1,5] [(84,#[.agg (Ai.arr c)],.bool (Ii c)),(71,#[.bool (Ii c),i6 423,.agg #[i6 (-1),i6 (-1)]],.agg (Am.arr (Af (Ii c) 423 ⟨-1, -1⟩)))] (Dy 4 1) [Hu w bc 0 (Ai.arr c),Old w 1 0 (i6 (-1)),Old w 1 1 (i6 (-1))] [(1,pt z),(5,.agg (Am.arr (Af (Ii c) 423 ⟨-1, -1⟩)))] [0,1] ⟨EE hbc,Aw (hL.1 0 _ rfl),Aw (hL.1 1 _ rfl),Ae⟩ ⟨fun w1 hw1=>kernel_calls w1 (hL.ext (hw1.ext rfl)) c (hc.ext (hw1.ext rfl) (fun _ h=>h)) hFr hpf,fun w2 hw2=>Bg w2 (hL.ext (hw2.ext rfl)) (Ii c) 423 (-1) (-1),Ae⟩ (fun n3 hn4 => ?_)
 replace hn4:z+1≤n3:=hn4
 refine AV 4 ?_
 refine Bi (an 3 1) [1] [Qb z,Qb z,Qb z] [(1,pt z)] ⟨w,n3,[(Ak w),(.blk z (.cells (Am.arr (Af (Ii c) 423 ⟨-1, -1⟩)) 98 (0,0)) true)]⟩ [] ⟨rfl,rfl,rfl,Ae⟩ (.inl rfl) ?_
 refine D9 5 [0,1] [(Ak w),(.blk z (.cells (Am.arr (Af (Ii c) 423 ⟨-1, -1⟩)) 98 (0,0)) true)] rfl rfl ?_
 refine CQ ?_
 refine Cb [1] [(1,pt z)] ?_
 refine FX <| Jh <| AP [.at 1,.at 1,.at 1] [Qb z,Qb z,Qb z] (.agg #[i6 ((Af (Ii c) 423 ⟨-1, -1⟩).e),i6 ((Af (Ii c) 423 ⟨-1, -1⟩).Ag.First),i6 ((Af (Ii c) 423 ⟨-1, -1⟩).Ag.Second)]) ⟨rfl,rfl,rfl,Ae⟩ ?_
 intro w5 hw5
 exact⟨congrArg (fun t=>Ending.returned (Value.agg (Am.arr t))) (show(Af (Ii c) 423 ⟨-1, -1⟩)=I8 c from by unfold I8;first | rfl | rw[decide_eq_false (by omega)] | rw[decide_eq_true (by omega)]),Au hw5⟩
abbrev fn1(f bc:Nat):Value:= .func (.func f) #[] #[.pointer (some ⟨bc,0,none⟩)]
abbrev fn2(f bc b:Nat):Value:= .func (.func f) #[] #[.pointer (some ⟨bc,0,none⟩),.pointer (some ⟨b,0,none⟩)]
def Gn(bc:Nat):List Value:=[fn1 70 bc,fn1 73 bc,fn1 74 bc,fn1 75 bc,fn1 76 bc]
def clo(f bc:Nat)(B:List Nat):List Value:=B.map fun b=>fn2 f bc b
theorem Yl{f bc b:Nat}{B:List Nat}:clo f bc (B++[b])=clo f bc B++[.func (.func f) #[] #[.pointer (some ⟨bc,0,none⟩),.pointer (some ⟨b,0,none⟩)]]:=List.map_append
theorem JC{f bc:Nat}{B:List Nat}:(clo f bc B).length=B.length:=List.length_map _
def asks(bc:Nat)(B1 B2 B3:List Nat):List Value:=Gn bc++clo 77 bc B1++clo 79 bc B2++clo 81 bc B3++[.func (.func 83) #[] #[.pointer (some ⟨bc,0,none⟩)]]
def answers(c:Ai):List Am:=[Ht c,whole2 c,Ha c,Hf c,GR c]++(List.range c.Ac.xs.length).map (Es c)++(List.range c.Aj.xs.length).map (Em c)++(List.range c.Ar.xs.length).map (FU c)++[I8 c]
def Ce(c:Ai):Am:=Bl (answers c)
theorem asks_len{bc:Nat}{B1 B2 B3:List Nat}:(asks bc B1 B2 B3).length=6+B1.length+B2.length+B3.length:=by
 simp[asks,Gn,clo];omega
theorem J5{c:Ai}:(answers c).length=6+c.Ac.xs.length+c.Aj.xs.length+c.Ar.xs.length:=by
 simp[answers];omega
theorem MV{α:Type}[Inhabited α]{a b:List α}{k:Nat}(h:k<a.length):gd (a++b) k=gd a k:=by
 rw[E5 (by rw[List.length_append];omega),E5 h,List.getElem_append_left h]
theorem VZ{α:Type}[Inhabited α]{a b:List α}{k n:Nat}(h:n=a.length+k)(hk:k<b.length):gd (a++b) n=gd b k:=by
 subst h
 rw[E5 (by rw[List.length_append];omega),E5 hk,List.getElem_append_right (by omega)]
 congr 1;omega
theorem Zad{β:Type}[Inhabited β]{f:Nat→β}{n i:Nat}(h:i<n):gd ((List.range n).map f) i=f i:=by
 rw[E5 (by simpa using h)];simp
theorem gd_clo{f bc b:Nat}{B:List Nat}{i:Nat}(h:B[i]? = some b):gd (clo f bc B) i=fn2 f bc b:=by
 obtain⟨hi,e⟩:=List.getElem?_eq_some_iff.1 h
 rw[E5 (by rw[JC];exact hi)]
 simp[clo,e]
section
variable {c:Ai}{bc:Nat}{B1 B2 B3:List Nat}
theorem ask_lo{k:Nat}(hk:k<5):gd (asks bc B1 B2 B3) k=gd (Gn bc) k:=by
 unfold asks
 have h5:(Gn bc).length=5:=rfl
 rw[MV (by simp only[List.length_append];omega),MV (by simp only[List.length_append];omega),MV (by simp only[List.length_append];omega),MV (by omega)]
theorem ans_lo{k:Nat}(hk:k<5):gd (answers c) k=gd [Ht c,whole2 c,Ha c,Hf c,GR c] k:=by
 unfold answers
 rw[MV (by simp;omega),MV (by simp;omega),MV (by simp;omega),MV (by simpa using hk)]
theorem ans_p{p:Nat}(hp:p<c.Ac.xs.length):gd (answers c) (5+p)=Es c p:=by
 unfold answers
 rw[MV (by simp;omega),MV (by simp;omega),MV (by simp;omega),VZ (k:=p) (by simp) (by simpa using hp),Zad hp]
theorem ans_h{p:Nat}(hp:p<c.Aj.xs.length):gd (answers c) (5+c.Ac.xs.length+p)=Em c p:=by
 unfold answers
 rw[MV (by simp;omega),MV (by simp;omega),VZ (k:=p) (by simp;omega) (by simpa using hp),Zad hp]
theorem ans_k{p:Nat}(hp:p<c.Ar.xs.length):gd (answers c) (5+c.Ac.xs.length+c.Aj.xs.length+p)=FU c p:=by
 unfold answers
 rw[MV (by simp;omega),VZ (k:=p) (by simp;omega) (by simpa using hp),Zad hp]
theorem ans_e:gd (answers c) (5+c.Ac.xs.length+c.Aj.xs.length+c.Ar.xs.length)=I8 c:=by
 unfold answers
 rw[VZ (k:=0) (by simp;omega) (by simp)];rfl
theorem kinds(h1:B1.length=c.Ac.xs.length)(h2:B2.length=c.Aj.xs.length)(h3:B3.length=c.Ar.xs.length){k:Nat}(hk:k<(asks bc B1 B2 B3).length) :
   (k=0∧gd (asks bc B1 B2 B3) k = .func (.func 70) #[] #[.pointer (some ⟨bc,0,none⟩)]∧gd (answers c) k=Ht c)∨(k=1∧gd (asks bc B1 B2 B3) k = .func (.func 73) #[] #[.pointer (some ⟨bc,0,none⟩)]∧gd (answers c) k=whole2 c)∨(k=2∧gd (asks bc B1 B2 B3) k = .func (.func 74) #[] #[.pointer (some ⟨bc,0,none⟩)]∧gd (answers c) k=Ha c) ∨
   (k=3∧gd (asks bc B1 B2 B3) k = .func (.func 75) #[] #[.pointer (some ⟨bc,0,none⟩)]∧gd (answers c) k=Hf c)∨(k=4∧gd (asks bc B1 B2 B3) k = .func (.func 76) #[] #[.pointer (some ⟨bc,0,none⟩)]∧gd (answers c) k=GR c) ∨
   (∃ p b,k=5+p∧p<c.Ac.xs.length∧B1[p]? = some b∧gd (asks bc B1 B2 B3) k = .func (.func 77) #[] #[.pointer (some ⟨bc,0,none⟩),.pointer (some ⟨b,0,none⟩)]∧gd (answers c) k=Es c p) ∨
   (∃ p b,k=5+c.Ac.xs.length+p∧p<c.Aj.xs.length∧B2[p]? = some b∧gd (asks bc B1 B2 B3) k = .func (.func 79) #[] #[.pointer (some ⟨bc,0,none⟩),.pointer (some ⟨b,0,none⟩)]∧gd (answers c) k=Em c p) ∨
   (∃ p b,k=5+c.Ac.xs.length+c.Aj.xs.length+p∧p<c.Ar.xs.length∧B3[p]? = some b∧gd (asks bc B1 B2 B3) k = .func (.func 81) #[] #[.pointer (some ⟨bc,0,none⟩),.pointer (some ⟨b,0,none⟩)]∧gd (answers c) k=FU c p) ∨
   (k=5+c.Ac.xs.length+c.Aj.xs.length+c.Ar.xs.length∧gd (asks bc B1 B2 B3) k = .func (.func 83) #[] #[.pointer (some ⟨bc,0,none⟩)]∧gd (answers c) k=I8 c):=by
 rw[asks_len]at hk
 have l5:(Gn bc).length=5:=rfl
 have hB:∀ (B:List Nat) (i:Nat),i<B.length→∃ b,B[i]? = some b:=fun B i hi=>⟨B[i],by simp[hi]⟩
 rcases Nat.lt_or_ge k 5 with g | g
 · rw[ask_lo g,ans_lo g]
   rcases(by omega:k=0∨k=1∨k=2∨k=3∨k=4)with rfl | rfl | rfl | rfl | rfl
   · exact .inl ⟨rfl,rfl,rfl⟩
   · exact .inr (.inl ⟨rfl,rfl,rfl⟩)
   · exact .inr (.inr (.inl ⟨rfl,rfl,rfl⟩))
   · exact .inr (.inr (.inr (.inl ⟨rfl,rfl,rfl⟩)))
   · exact .inr (.inr (.inr (.inr (.inl ⟨rfl,rfl,rfl⟩))))
 refine .inr (.inr (.inr (.inr (.inr ?_))))
 rcases Nat.lt_or_ge k (5+c.Ac.xs.length)with g1 | g1
 · obtain⟨p,rfl⟩:∃ p,k=5+p:=⟨k - 5,by omega⟩
   obtain⟨b,hb⟩:=hB B1 p (by omega)
   refine .inl ⟨p,b,rfl,by omega,hb, ?_,ans_p (by omega)⟩
   unfold asks
   rw[MV (by simp only[List.length_append,JC];omega),MV (by simp only[List.length_append,JC];omega),MV (by simp only[List.length_append,JC];omega),VZ (k:=p) (by omega) (by rw[JC];omega),gd_clo hb]
 rcases Nat.lt_or_ge k (5+c.Ac.xs.length+c.Aj.xs.length)with g2 | g2
 · obtain⟨p,rfl⟩:∃ p,k=5+c.Ac.xs.length+p:=⟨k - (5+c.Ac.xs.length),by omega⟩
   obtain⟨b,hb⟩:=hB B2 p (by omega)
   refine .inr (.inl ⟨p,b,rfl,by omega,hb, ?_,ans_h (by omega)⟩)
   unfold asks
   rw[MV (by simp only[List.length_append,JC];omega),MV (by simp only[List.length_append,JC];omega),VZ (k:=p) (by simp only[List.length_append,JC];omega) (by rw[JC];omega),gd_clo hb]
 rcases Nat.lt_or_ge k (5+c.Ac.xs.length+c.Aj.xs.length+c.Ar.xs.length)with g3 | g3
 · obtain⟨p,rfl⟩:∃ p,k=5+c.Ac.xs.length+c.Aj.xs.length+p:=⟨k - (5+c.Ac.xs.length+c.Aj.xs.length),by omega⟩
   obtain⟨b,hb⟩:=hB B3 p (by omega)
   refine .inr (.inr (.inl ⟨p,b,rfl,by omega,hb, ?_,ans_k (by omega)⟩))
   unfold asks
   rw[MV (by simp only[List.length_append,JC];omega),VZ (k:=p) (by simp only[List.length_append,JC];omega) (by rw[JC];omega),gd_clo hb]
 · obtain rfl:k=5+c.Ac.xs.length+c.Aj.xs.length+c.Ar.xs.length:=by omega
   refine .inr (.inr (.inr ⟨rfl, ?_,ans_e⟩))
   unfold asks
   rw[VZ (k:=0) (by simp only[List.length_append,JC];omega) (by simp)];rfl
variable {n:Nat}(hf:∀ i,i<n→gd (answers c) i=DF)
theorem Za6(hf:∀ i,i<n→gd (answers c) i=DF)(hn:1≤n):1≤c.Frames∧c.Frames≤1024:=by
 have h:=hf 0 (by omega)
 rw[ans_lo (by decide)]at h
 exact Iz ((V7 (by decide)).1 (show Af (win c.Frames 1 1024) 400 ⟨-1, -1⟩=DF from h))
theorem parts_of(hf:∀ i,i<n→gd (answers c) i=DF)(hn:4≤n):c.Ac.xs.length≤1024:=by
 have h:=hf 3 (by omega)
 rw[ans_lo (by decide)]at h
 have:=Iz ((V7 (by decide)).1 (show Af (win (c.Ac.xs.length:Int) 1 8) 403 ⟨-1, -1⟩=DF from h))
 omega
theorem Z9(hf:∀ i,i<n→gd (answers c) i=DF){q:Nat}(hq:q<c.Ac.xs.length)(hn:5+q<n):Es c q=DF:=by
 rw[←ans_p hq];exact hf _ hn
theorem partQ_E{c:Ai}{p:Nat}(h:Es c p=DF):FB (Bl (IM c p)) (KQ c p) (FY c p).Aq.xs.length=DF:=by
 unfold Es at h
 rw[if_pos (VD (by unfold Es;exact h))]at h
 exact h
theorem ports_of(hf:∀ i,i<n→gd (answers c) i=DF)(hn:5+c.Ac.xs.length≤n):∀ p,p<c.Ac.xs.length→(gd c.Ac.xs p).Aq.xs.length≤1024:=by
 intro p hp
 have h:=(WW (partQ_E (Z9 hf hp (by omega)))).1
 have h2:=ZF h _ (List.mem_cons_of_mem _ (List.mem_cons_self ..))
 rw[V7 (by decide)]at h2
 have:=of_decide_eq_true h2
 simp only[FY]at this
 omega
end
end Go.Proofs.YtekjfiegdpoajaaGreatDoor.Ad
namespace Go.Proofs.YtekjfiegdpoajaaGreatDoor.Eng
open Go Go.Proofs.YtekjfiegdpoajaaGreatDoor.Mem
set_option linter.unusedSimpArgs false
set_option linter.unusedVariables false
def caps(t:TypeId)(B:List Nat):Ch:= .inv (fun b=>b∈B) (fun w=>∀ (i b:Nat),B[i]? = some b→w.heap[b]? = some (.cells #[.int .i64 (i:Nat)] t (0,0))) true
theorem XQ(t:TypeId)(B:List Nat):(caps t B).stable:=fun w w' h hw i b hb=>(h b (List.mem_of_getElem? hb)).trans (hw i b hb)
theorem VM{A:AW}{w:World}(h:Sat A w){i j b:Nat}{t:TypeId}{B:List Nat}(hb:B[j]? = some b)(hi:A.σ[i]? = some (caps t B):=by rfl):∀ (k:Nat) (v:Value),[Value.int .i64 (j:Nat)][k]? = some v→w.cell? ⟨b,0+k,none⟩=some v:=by
 have h1:w.heap[b]? = some (.cells #[.int .i64 (j:Nat)] t (0,0)):=h.at hi j b hb
 intro k v hk
 match k,hk with
 | 0,hk=>cases hk;simp[World.cell?,h1]
theorem LJ{A:AW}{w:World}(h:Sat A w){i b:Nat}{cs:Array Value}{t:TypeId}{fr:Nat×Nat}{rw':Bool}{l:List Value}(hi:A.σ[i]? = some (.blk b (.cells cs t fr) rw'):=by rfl)(hl:l=cs.toList:=by rfl):∀ (k:Nat) (v:Value),l[k]? = some v→w.cell? ⟨b,0+k,none⟩=some v:=by
 have h1:w.heap[b]? = some (.cells cs t fr):=h.at hi
 intro k v hk
 subst hl
 simp[World.cell?,h1]at hk ⊢
 exact hk
theorem Sat.caps{A:AW}{w:World}(h:Sat A w)(i j:Nat)(is:List Nat){t:TypeId}{B:List Nat}{b n:Nat}{kept:List Ch}(hn:B.length=n)(hi:A.σ[i]? = some (caps t B))(hj:A.σ[j]? = some (.blk b (.cells #[.int .i64 (n:Nat)] t (0,0)) true))(hnd:nodupB is=true)(hni:is.contains i=false)(hnj:is.contains j=false)(hp:picks is A.σ=some kept):Sat { A with σ:=kept++[Eng.caps t (B++[b])] } w:=by
 have:=h.exch is hnd hp (BH.refl (fun _=>False) w) (fun _ _ _ _ x=>x) [Eng.caps t (B++[b])] (by
  intro d hd
  simp only[List.mem_singleton]at hd
  subst hd
  refine⟨fun k b' hb => ?_,XQ _ _, ?_⟩
  ·rcases Nat.lt_trichotomy k B.length with hk | hk | hk
   ·rw[List.getElem?_append_left hk]at hb
    exact h.at hi k b' hb
   ·subst hk
    rw[List.getElem?_append_right (Nat.le_refl _)]at hb
    simp at hb
    subst hb;subst hn
    exact h.at hj
   rw[List.getElem?_eq_none (by simp;omega)]at hb;cases hb
  ·intro b' hb'
   rw[h.size]
   rcases List.mem_append.1 hb' with hb' | hb'
   ·exact h.bnd _ (List.mem_of_getElem? hi) b' hb'
   exact h.bnd _ (List.mem_of_getElem? hj) b' (List.mem_singleton.1 hb')) (by simp) (by
  intro d hd d' hd' _ b' hb
  simp only[List.mem_singleton]at hd'
  subst hd'
  obtain⟨q,hq,hqs⟩:=Nv hp d hd
  intro hb'
  rcases List.mem_append.1 hb' with hb' | hb'
  ·exact KH h.Md (i:=i) (j:=q) (by rw[List.getElem?_map,hi];rfl) (by rw[List.getElem?_map,hqs];rfl) (fun e=>by subst e;simp[hq]at hni) rfl b' hb' hb
  exact KH h.Md (i:=j) (j:=q) (by rw[List.getElem?_map,hj];rfl) (by rw[List.getElem?_map,hqs];rfl) (fun e=>by subst e;simp[hq]at hnj) rfl b' (List.mem_singleton.1 hb') hb)
 rw[h.size]at this
 exact this
section
variable {P:Program}{N:Nat}{env:Env}{ds:List Deferred}{A:AW}{s:List Kt}{Q:Exit→Act→World→Prop}{c:Code}{x:Exit}
theorem ZC(t:TypeId)(K:G P N env ds { A with σ:=A.σ++[caps t []] } c s Q):G P N env ds A c s Q :=
 fun a w hst=>K a w ⟨hst.sz,hst.df,hst.kn,hst.mem.more _ (fun i b h=>by simp at h) (XQ _ _) (fun b h=>by cases h)⟩
theorem ZaH(i j:Nat)(is:List Nat)(t:TypeId)(B:List Nat)(b n:Nat)(kept:List Ch)(hn:B.length=n)(K:E P N env ds { A with σ:=kept++[caps t (B++[b])] } x s Q)
   (hi:A.σ[i]? = some (caps t B):=by rfl) (hj:A.σ[j]? = some (.blk b (.cells #[.int .i64 (n:Nat)] t (0,0)) true):=by rfl) (hnd:nodupB is=true:=by rfl) (hni:is.contains i=false:=by rfl) (hnj:is.contains j=false:=by rfl) (hp:picks is A.σ=some kept:=by rfl):E P N env ds A x s Q :=
 fun a' w hst=>K a' w ⟨hst.sz,hst.df,hst.kn,hst.mem.caps i j is hn hi hj hnd hni hnj hp⟩
end
end Go.Proofs.YtekjfiegdpoajaaGreatDoor.Eng
namespace Go.Proofs.YtekjfiegdpoajaaGreatDoor.Ad
open Go Go.Proofs.YtekjfiegdpoajaaGreatDoor.Eng Go.Proofs.YtekjfiegdpoajaaGreatDoor.Mem Go.Proofs.YtekjfiegdpoajaaGreatDoor.Ly
set_option linter.unusedSimpArgs false
set_option linter.unusedVariables false
set_option maxRecDepth 100000
section
variable (n10 z:Nat)(n17 n3:Nat)(c:Ai)(p n75:Nat)(n83 n91:Nat)(n35 n43:Nat)(n51 n59:Nat)(n67 n99:Nat)(ax19:Option Addr)(B1 B2 B3:List Nat)(cp20:Nat)(ax12:Option Addr)(cp13:Nat)(ax5:Option Addr)(cp6:Nat)(aL3:Option Addr)(cL3:Nat)(aL2:Option Addr)(cL2:Nat)(aL1:Option Addr)(cL1 b31:Nat)(cR b39:Nat)(b47 b55:Nat)(b63 b71:Nat)(b79 b87:Nat)(b95 k:Nat)
abbrev YH:=bk (n10+1) #[.func (.func 79) #[] #[pt (z+2),pt n10]] 96
abbrev qdvx_1:=bk (n17+1) #[.func (.func 81) #[] #[pt (z+2),pt n17]] 96
abbrev Zi:=bk (n3+1) #[.func (.func 77) #[] #[pt (z+2),pt n3]] 96
abbrev qdvx_3:=bk (z+1) #[i6 ((Es c p).Ag.First),i6 ((Es c p).Ag.Second)] 30
abbrev qdvx_4:=bk (z+1) #[i6 ((Em c p).Ag.First),i6 ((Em c p).Ag.Second)] 30
abbrev qdvx_5:=bk (z+1) #[i6 ((FU c p).Ag.First),i6 ((FU c p).Ag.Second)] 30
abbrev qdvx_6:=bk (z+1) #[i6 ((Ht c).Ag.First),i6 ((Ht c).Ag.Second)] 30
abbrev qdvx_7:=bk (z+1) #[i6 ((whole2 c).Ag.First),i6 ((whole2 c).Ag.Second)] 30
abbrev qdvx_8:=bk (z+1) #[i6 ((Ha c).Ag.First),i6 ((Ha c).Ag.Second)] 30
abbrev qdvx_9:=bk (z+1) #[i6 ((Hf c).Ag.First),i6 ((Hf c).Ag.Second)] 30
abbrev qdvx_10:=bk (z+1) #[i6 ((GR c).Ag.First),i6 ((GR c).Ag.Second)] 30
abbrev qdvx_11:=bk (z+1) #[i6 ((I8 c).Ag.First),i6 ((I8 c).Ag.Second)] 30
abbrev DX:=bk n17 #[.func (.func 83) #[] #[pt (z+2)]] 96
abbrev D7:=bk (z+1) #[i6 0,i6 0] 30
abbrev Xr:=bk n75 (Am.arr (Es c p)) 98
abbrev XM:=bk n83 (Am.arr (Em c p)) 98
abbrev Xu:=bk n91 (Am.arr (FU c p)) 98
abbrev XJ:=bk n35 (Am.arr (Ht c)) 98
abbrev X5:=bk n43 (Am.arr (whole2 c)) 98
abbrev Xp:=bk n51 (Am.arr (Ha c)) 98
abbrev Xl:=bk n59 (Am.arr (Hf c)) 98
abbrev XK:=bk n67 (Am.arr (GR c)) 98
abbrev Xn:=bk n99 (Am.arr (I8 c)) 98
abbrev CX:=bk (z+2) (Ai.arr c) 27
abbrev CU:=bk z (Ai.arr c) 27
abbrev Zo:=BB z 96 1 (fun v:Value=>[v]) (.slice ax19 ((Gn (z+2)++clo 77 (z+2) B1++clo 79 (z+2) B2++clo 81 (z+2) B3++[(.func (.func 81) #[] #[pt (z+2),pt n17]:Value)]).length) cp20) (Gn (z+2)++clo 77 (z+2) B1++clo 79 (z+2) B2++clo 81 (z+2) B3++[(.func (.func 81) #[] #[pt (z+2),pt n17]:Value)])
abbrev XD:=BB z 96 1 (fun v:Value=>[v]) (.slice ax12 ((Gn (z+2)++clo 77 (z+2) B1++clo 79 (z+2) B2++[(.func (.func 79) #[] #[pt (z+2),pt n10]:Value)]).length) cp13) (Gn (z+2)++clo 77 (z+2) B1++clo 79 (z+2) B2++[(.func (.func 79) #[] #[pt (z+2),pt n10]:Value)])
abbrev Xz:=BB z 96 1 (fun v:Value=>[v]) (.slice ax5 ((Gn (z+2)++clo 77 (z+2) B1++[(.func (.func 77) #[] #[pt (z+2),pt n3]:Value)]).length) cp6) (Gn (z+2)++clo 77 (z+2) B1++[(.func (.func 77) #[] #[pt (z+2),pt n3]:Value)])
abbrev SY:=BB z 96 1 (fun v:Value=>[v]) (.slice aL3 ((Gn (z+2)++clo 77 (z+2) B1++clo 79 (z+2) B2++clo 81 (z+2) B3).length) cL3) (Gn (z+2)++clo 77 (z+2) B1++clo 79 (z+2) B2++clo 81 (z+2) B3)
abbrev QT:=BB z 96 1 (fun v:Value=>[v]) (.slice aL2 ((Gn (z+2)++clo 77 (z+2) B1++clo 79 (z+2) B2).length) cL2) (Gn (z+2)++clo 77 (z+2) B1++clo 79 (z+2) B2)
abbrev OA:=BB z 96 1 (fun v:Value=>[v]) (.slice aL1 ((Gn (z+2)++clo 77 (z+2) B1).length) cL1) (Gn (z+2)++clo 77 (z+2) B1)
abbrev Tj:=BB z 96 1 (fun v:Value=>[v]) (.slice (some ⟨b31,0,none⟩) ((asks (z+2) B1 B2 B3).length) cR) (asks (z+2) B1 B2 B3)
abbrev SS:=BB z 96 1 (fun v:Value=>[v]) (.slice (some ⟨b39,0,none⟩) ((asks (z+2) B1 B2 B3).length) cR) (asks (z+2) B1 B2 B3)
abbrev TC:=BB z 96 1 (fun v:Value=>[v]) (.slice (some ⟨b47,0,none⟩) ((asks (z+2) B1 B2 B3).length) cR) (asks (z+2) B1 B2 B3)
abbrev TB:=BB z 96 1 (fun v:Value=>[v]) (.slice (some ⟨b55,0,none⟩) ((asks (z+2) B1 B2 B3).length) cR) (asks (z+2) B1 B2 B3)
abbrev Tq:=BB z 96 1 (fun v:Value=>[v]) (.slice (some ⟨b63,0,none⟩) ((asks (z+2) B1 B2 B3).length) cR) (asks (z+2) B1 B2 B3)
abbrev SE:=BB z 96 1 (fun v:Value=>[v]) (.slice (some ⟨b71,0,none⟩) ((asks (z+2) B1 B2 B3).length) cR) (asks (z+2) B1 B2 B3)
abbrev Tn:=BB z 96 1 (fun v:Value=>[v]) (.slice (some ⟨b79,0,none⟩) ((asks (z+2) B1 B2 B3).length) cR) (asks (z+2) B1 B2 B3)
abbrev Tv:=BB z 96 1 (fun v:Value=>[v]) (.slice (some ⟨b87,0,none⟩) ((asks (z+2) B1 B2 B3).length) cR) (asks (z+2) B1 B2 B3)
abbrev SQ:=BB z 96 1 (fun v:Value=>[v]) (.slice (some ⟨b95,0,none⟩) ((asks (z+2) B1 B2 B3).length) cR) (asks (z+2) B1 B2 B3)
abbrev ZQ:Dv:=(3,.slice ax19 ((Gn (z+2)++clo 77 (z+2) B1++clo 79 (z+2) B2++clo 81 (z+2) B3++[(.func (.func 81) #[] #[pt (z+2),pt n17]:Value)]).length) cp20)
abbrev X9:Dv:=(3,.slice ax12 ((Gn (z+2)++clo 77 (z+2) B1++clo 79 (z+2) B2++[(.func (.func 79) #[] #[pt (z+2),pt n10]:Value)]).length) cp13)
abbrev XI:Dv:=(3,.slice ax5 ((Gn (z+2)++clo 77 (z+2) B1++[(.func (.func 77) #[] #[pt (z+2),pt n3]:Value)]).length) cp6)
abbrev UH:Dv:=(8,.slice (some ⟨b31,0,none⟩) ((asks (z+2) B1 B2 B3).length) cR)
abbrev UZ:Dv:=(8,.slice (some ⟨b39,0,none⟩) ((asks (z+2) B1 B2 B3).length) cR)
abbrev Vl:Dv:=(8,.slice (some ⟨b47,0,none⟩) ((asks (z+2) B1 B2 B3).length) cR)
abbrev UQ:Dv:=(8,.slice (some ⟨b55,0,none⟩) ((asks (z+2) B1 B2 B3).length) cR)
abbrev UW:Dv:=(8,.slice (some ⟨b63,0,none⟩) ((asks (z+2) B1 B2 B3).length) cR)
abbrev Vb:Dv:=(8,.slice (some ⟨b71,0,none⟩) ((asks (z+2) B1 B2 B3).length) cR)
abbrev UF:Dv:=(8,.slice (some ⟨b79,0,none⟩) ((asks (z+2) B1 B2 B3).length) cR)
abbrev Vr:Dv:=(8,.slice (some ⟨b87,0,none⟩) ((asks (z+2) B1 B2 B3).length) cR)
abbrev UE:Dv:=(8,.slice (some ⟨b95,0,none⟩) ((asks (z+2) B1 B2 B3).length) cR)
abbrev DY:=(9,i6 (((asks (z+2) B1 B2 B3).length:Nat):Int))
abbrev LD:=(15,Aa c.Ac.xs.length)
abbrev NP:=(26,Aa c.Aj.xs.length)
abbrev Qm:=(37,Aa c.Ar.xs.length)
abbrev CE:=(3,pt (z+1))
abbrev GY:=(1,pt (z+2))
abbrev Jc:=(10,i6 ((k+1:Nat):Int))
end
theorem NK(w:World)(hL:Gf w)(c:Ai)(hc:Ai.ok Any w c)(hS:c.Ac.xs.length+c.Aj.xs.length+c.Ar.xs.length≤15000000000000):Calls Tryz.prog 14 #[.agg (Ai.arr c)] w fun e w'=>e = .returned (.tuple #[.int .i64 (Ce c).e,.agg #[.int .i64 (Ce c).Ag.First,.int .i64 (Ce c).Ag.Second]])∧BH (fun _=>False) w w':=by
 obtain⟨z,hz⟩:∃ z,z=w.heap.size:=⟨_,rfl⟩
 refine BA (args:=[.agg (Ai.arr c)]) 25 ⟨w,z,[(Ak w)]⟩ Tryz.func14 rfl (by kernel_rfl) (by kernel_rfl) (En hz) ?_
 have hpl:=hc.Ac.1.len;have hpc:=hc.Ar.1.len;have hpch:=hc.Aj.1.len
 refine Cc [0] [(0,.agg (Ai.arr c))] ?_
 refine q_c 7 1 [] [[o0,o0,o0],[(an 7 1)]] [Qb z,Qb z,Qb z,Qb z,Qb z,Qb z,Qb z] [(CE z),(7,.agg (Ai.arr c))] ⟨w,z+2,[(Ak w),(CU z c),(D7 z)]⟩ rfl ⟨rfl,rfl,rfl,rfl,rfl,rfl,rfl,Ae⟩ ?_
 refine l_call [] [] 42 #[.agg (Ai.arr c)] (some 8) Ae ?_
 intro w1 hw1
 refine BA (args:=[.agg (Ai.arr c)]) 50 ⟨w,z+2,[(Ak w),(CU z c),(D7 z)]⟩ Tryz.func42 rfl (by kernel_rfl) (by kernel_rfl) hw1 ?_
 refine q_c 14 0 [] [[o0,o0],[o0,o0,o0,o0,o0,o0,o0],[o0,(a1 3),o0,o0]] [Qb (z+2)] [(GY z),(3,.slice (some ⟨z+3,0,none⟩) 5 5),(LD c),(16,i6 0)] ⟨w,z+4,[(Ak w),(CU z c),(D7 z),(CX z c),(bk (z+3) #[.func (.func 70) #[] #[pt (z+2)],.func (.func 73) #[] #[pt (z+2)],.func (.func 74) #[] #[pt (z+2)],.func (.func 75) #[] #[pt (z+2)],.func (.func 76) #[] #[pt (z+2)]] 96)]⟩ rfl ⟨rfl,Ae⟩ ?_
 refine g_blkrow 4 (z+3) z 96 1 (fun v:Value=>[v]) (Gn (z+2)) #[.func (.func 70) #[] #[pt (z+2)],.func (.func 73) #[] #[pt (z+2)],.func (.func 74) #[] #[pt (z+2)],.func (.func 75) #[] #[pt (z+2)],.func (.func 76) #[] #[pt (z+2)]] (by omega) (?_:G _ _ _ _ ⟨w,z+4,[(Ak w),(CU z c),(D7 z),(CX z c),(BB z 96 1 (fun v:Value=>[v]) (.slice (some ⟨z+3,0,none⟩) 5 5) (Gn (z+2)))]⟩ _ _ _)
 refine ZC 3 ?_
 refine DI (fun m a w'=>∃ (n3:Nat) (p0:Nat) (B1:List Nat) (aL1:Option Addr) (cL1:Nat),m=c.Ac.xs.length - p0∧z+4≤n3∧(p0≤c.Ac.xs.length)∧(B1.length=p0)∧St 50 [(GY z),(3,.slice aL1 ((Gn (z+2)++clo 77 (z+2) B1).length) cL1),(LD c),(16,Aa p0)] [] ⟨w,n3,[(Ak w),(CU z c),(D7 z),(CX z c),(OA z B1 aL1 cL1),(caps 3 B1)]⟩ a w') (c.Ac.xs.length - 0) ?_ ?_
 ·intro a w' hs;exact⟨(z+4),0,([]),(some ⟨z+3,0,none⟩),5,rfl,Nat.le_refl _,Nat.zero_le _,rfl,(by(try dsimp only[D7,CX,CU,OA,LD,CE,GY]at hs ⊢);rw[show clo 77 (z+2) []=[]from rfl,List.append_nil];exact hs)⟩
 rintro m a w' ⟨n3,p0,B1,aL1,cL1,rfl,hn2,hkp0,hB1,hs⟩
 refine(?_:G Tryz.prog 50 [(GY z),(3,.slice aL1 ((Gn (z+2)++clo 77 (z+2) B1).length) cL1),(LD c),(16,Aa p0)] [] ⟨w,n3,[(Ak w),(CU z c),(D7 z),(CX z c),(OA z B1 aL1 cL1),(caps 3 B1)]⟩ _ _ _) a w' hs
 clear hs a w'
 have hxl1:(Gn (z+2)++clo 77 (z+2) B1).length=5+p0:=by simp only[List.length_append,JC,hB1];rfl
 refine Dl ?_
 by_cases h4:(p0:Int)<(c.Ac.xs.length:Int)
 ·refine q_c 14 3 [1] [[oT],[o0,o0,(a1 6)],[o0,o0,o0]] [BT ((p0:Int)<(c.Ac.xs.length:Int)),Qb n3] [(GY z),(LD c),(16,Aa p0),(19,.slice aL1 ((Gn (z+2)++clo 77 (z+2) B1).length) cL1),(21,.slice (some ⟨n3+1,0,none⟩) 1 1)] ⟨w,n3+2,[(Ak w),(CU z c),(D7 z),(CX z c),(OA z B1 aL1 cL1),(caps 3 B1),(bk n3 #[(Aa p0)] 3),(Zi z n3)]⟩ rfl ⟨bt,rfl,Ae⟩ ?_
  refine Xo z 4 7 (Gn (z+2)++clo 77 (z+2) B1) [(.func (.func 77) #[] #[pt (z+2),pt n3]:Value)] (fun v:Value=>[v]) 96 1 8 (.slice aL1 ((Gn (z+2)++clo 77 (z+2) B1).length) cL1) (n3+1) 1 1 #[.func (.func 77) #[] #[pt (z+2),pt n3]] 96 (0,0) true (some 22) (by simp only[List.length_cons,List.length_nil];omega) (by simp only[List.length_cons,List.length_nil];omega) (show z≤n3+2 by omega) (fun ax5 cp6 n7 (hn8:n3+2≤n7) => ?_)
  refine Bv 5 0 [] [[o0],[(ov (i6 ((p0+1:Nat):Int))),o0]] [Wr ((p0:Int)+1) (((p0+1:Nat):Int))] [(GY z),(LD c),(16,i6 ((p0+1:Nat):Int)),(XI z n3 B1 ax5 cp6)] rfl ⟨Dk,Ae⟩ ?_
  refine ZaH 5 6 [0,1,2,3,4,7] 3 B1 n3 p0 [(Ak w),(CU z c),(D7 z),(CX z c),(Xz z n3 B1 ax5 cp6),(Zi z n3)] hB1 ?_
  refine C9 [0,1,2,3,4,6] [(Ak w),(CU z c),(D7 z),(CX z c),(Xz z n3 B1 ax5 cp6),(caps 3 (B1++[n3]))] rfl rfl ?_
  refine Cb [1,3,15,16] [(GY z),(XI z n3 B1 ax5 cp6),(LD c),(16,i6 ((p0+1:Nat):Int))] ?_
  refine CS (fun a w' hs=>⟨c.Ac.xs.length - (p0+1),by omega,n7,(p0+1),(B1++[n3]),ax5,cp6,rfl,by omega,by omega,(by rw[List.length_append,hB1];rfl),(by(try dsimp only[Zi,D7,CX,CU,Xz,OA,XI,LD,GY]at hs ⊢);rw[Yl,←List.append_assoc];exact hs)⟩)
 refine A8 16 0 [0] [[oF],[o0,(a1 3),o0,o0]] [BF ((p0:Int)<(c.Ac.xs.length:Int)),Qb (z+2)] [(GY z),(3,.slice aL1 ((Gn (z+2)++clo 77 (z+2) B1).length) cL1),(NP c),(27,i6 0)] rfl ⟨bf,rfl,Ae⟩ ?_
 refine ZC 3 ?_
 refine DI (fun m a w'=>∃ (n10:Nat) (h0:Nat) (B2:List Nat) (aL2:Option Addr) (cL2:Nat),m=c.Aj.xs.length - h0∧n3≤n10∧(h0≤c.Aj.xs.length)∧(B2.length=h0)∧St 50 [(GY z),(3,.slice aL2 ((Gn (z+2)++clo 77 (z+2) B1++clo 79 (z+2) B2).length) cL2),(NP c),(27,Aa h0)] [] ⟨w,n10,[(Ak w),(CU z c),(D7 z),(CX z c),(QT z B1 B2 aL2 cL2),(caps 3 B1),(caps 3 B2)]⟩ a w') (c.Aj.xs.length - 0) ?_ ?_
 ·intro a w' hs;exact⟨n3,0,([]),aL1,cL1,rfl,Nat.le_refl _,Nat.zero_le _,rfl,(by(try dsimp only[Zi,D7,CX,CU,Xz,QT,OA,XI,LD,NP,GY]at hs ⊢);rw[show clo 79 (z+2) []=[]from rfl,List.append_nil];exact hs)⟩
 rintro m a w' ⟨n10,h0,B2,aL2,cL2,rfl,hn9,hkh0,hB2,hs⟩
 refine(?_:G Tryz.prog 50 [(GY z),(3,.slice aL2 ((Gn (z+2)++clo 77 (z+2) B1++clo 79 (z+2) B2).length) cL2),(NP c),(27,Aa h0)] [] ⟨w,n10,[(Ak w),(CU z c),(D7 z),(CX z c),(QT z B1 B2 aL2 cL2),(caps 3 B1),(caps 3 B2)]⟩ _ _ _) a w' hs
 clear hs a w'
 have hxl2:(Gn (z+2)++clo 77 (z+2) B1++clo 79 (z+2) B2).length=5+B1.length+h0:=by simp only[List.length_append,JC,hB2];rfl
 refine Dl ?_
 by_cases h11:(h0:Int)<(c.Aj.xs.length:Int)
 ·refine q_c 14 3 [1] [[oT],[o0,o0,(a1 7)],[o0,o0,o0]] [BT ((h0:Int)<(c.Aj.xs.length:Int)),Qb n10] [(GY z),(NP c),(27,Aa h0),(30,.slice aL2 ((Gn (z+2)++clo 77 (z+2) B1++clo 79 (z+2) B2).length) cL2),(32,.slice (some ⟨n10+1,0,none⟩) 1 1)] ⟨w,n10+2,[(Ak w),(CU z c),(D7 z),(CX z c),(QT z B1 B2 aL2 cL2),(caps 3 B1),(caps 3 B2),(bk n10 #[(Aa h0)] 3),(YH n10 z)]⟩ rfl ⟨bt,rfl,Ae⟩ ?_
  refine Xo z 4 8 (Gn (z+2)++clo 77 (z+2) B1++clo 79 (z+2) B2) [(.func (.func 79) #[] #[pt (z+2),pt n10]:Value)] (fun v:Value=>[v]) 96 1 8 (.slice aL2 ((Gn (z+2)++clo 77 (z+2) B1++clo 79 (z+2) B2).length) cL2) (n10+1) 1 1 #[.func (.func 79) #[] #[pt (z+2),pt n10]] 96 (0,0) true (some 33) (by simp only[List.length_cons,List.length_nil];omega) (by simp only[List.length_cons,List.length_nil];omega) (show z≤n10+2 by omega) (fun ax12 cp13 n14 (hn15:n10+2≤n14) => ?_)
  refine Bv 5 0 [] [[o0],[(ov (i6 ((h0+1:Nat):Int))),o0]] [Wr ((h0:Int)+1) (((h0+1:Nat):Int))] [(GY z),(NP c),(27,i6 ((h0+1:Nat):Int)),(X9 n10 z B1 B2 ax12 cp13)] rfl ⟨Dk,Ae⟩ ?_
  refine ZaH 6 7 [0,1,2,3,4,5,8] 3 B2 n10 h0 [(Ak w),(CU z c),(D7 z),(CX z c),(XD n10 z B1 B2 ax12 cp13),(caps 3 B1),(YH n10 z)] hB2 ?_
  refine C9 [0,1,2,3,4,5,7] [(Ak w),(CU z c),(D7 z),(CX z c),(XD n10 z B1 B2 ax12 cp13),(caps 3 B1),(caps 3 (B2++[n10]))] rfl rfl ?_
  refine Cb [1,3,26,27] [(GY z),(X9 n10 z B1 B2 ax12 cp13),(NP c),(27,i6 ((h0+1:Nat):Int))] ?_
  refine CS (fun a w' hs=>⟨c.Aj.xs.length - (h0+1),by omega,n14,(h0+1),(B2++[n10]),ax12,cp13,rfl,by omega,by omega,(by rw[List.length_append,hB2];rfl),(by(try dsimp only[YH,D7,CX,CU,XD,QT,OA,X9,LD,NP,GY]at hs ⊢);rw[Yl,←List.append_assoc];exact hs)⟩)
 refine A8 16 0 [0] [[oF],[o0,(a1 3),o0,o0]] [BF ((h0:Int)<(c.Aj.xs.length:Int)),Qb (z+2)] [(GY z),(3,.slice aL2 ((Gn (z+2)++clo 77 (z+2) B1++clo 79 (z+2) B2).length) cL2),(Qm c),(38,i6 0)] rfl ⟨bf,rfl,Ae⟩ ?_
 refine ZC 3 ?_
 refine DI (fun m a w'=>∃ (n17:Nat) (k0:Nat) (B3:List Nat) (aL3:Option Addr) (cL3:Nat),m=c.Ar.xs.length - k0∧n10≤n17∧(k0≤c.Ar.xs.length)∧(B3.length=k0)∧St 50 [(GY z),(3,.slice aL3 ((Gn (z+2)++clo 77 (z+2) B1++clo 79 (z+2) B2++clo 81 (z+2) B3).length) cL3),(Qm c),(38,Aa k0)] [] ⟨w,n17,[(Ak w),(CU z c),(D7 z),(CX z c),(SY z B1 B2 B3 aL3 cL3),(caps 3 B1),(caps 3 B2),(caps 3 B3)]⟩ a w') (c.Ar.xs.length - 0) ?_ ?_
 ·intro a w' hs;exact⟨n10,0,([]),aL2,cL2,rfl,Nat.le_refl _,Nat.zero_le _,rfl,(by(try dsimp only[YH,D7,CX,CU,XD,SY,QT,OA,X9,LD,NP,Qm,GY]at hs ⊢);rw[show clo 81 (z+2) []=[]from rfl,List.append_nil];exact hs)⟩
 rintro m a w' ⟨n17,k0,B3,aL3,cL3,rfl,hn16,hkk0,hB3,hs⟩
 refine(?_:G Tryz.prog 50 [(GY z),(3,.slice aL3 ((Gn (z+2)++clo 77 (z+2) B1++clo 79 (z+2) B2++clo 81 (z+2) B3).length) cL3),(Qm c),(38,Aa k0)] [] ⟨w,n17,[(Ak w),(CU z c),(D7 z),(CX z c),(SY z B1 B2 B3 aL3 cL3),(caps 3 B1),(caps 3 B2),(caps 3 B3)]⟩ _ _ _) a w' hs
 clear hs a w'
 have hxl3:(Gn (z+2)++clo 77 (z+2) B1++clo 79 (z+2) B2++clo 81 (z+2) B3).length=5+B1.length+B2.length+k0:=by simp only[List.length_append,JC,hB3];rfl
 refine Dl ?_
 by_cases h18:(k0:Int)<(c.Ar.xs.length:Int)
 ·refine q_c 14 3 [1] [[oT],[o0,o0,(a1 8)],[o0,o0,o0]] [BT ((k0:Int)<(c.Ar.xs.length:Int)),Qb n17] [(GY z),(Qm c),(38,Aa k0),(41,.slice aL3 ((Gn (z+2)++clo 77 (z+2) B1++clo 79 (z+2) B2++clo 81 (z+2) B3).length) cL3),(43,.slice (some ⟨n17+1,0,none⟩) 1 1)] ⟨w,n17+2,[(Ak w),(CU z c),(D7 z),(CX z c),(SY z B1 B2 B3 aL3 cL3),(caps 3 B1),(caps 3 B2),(caps 3 B3),(bk n17 #[(Aa k0)] 3),(qdvx_1 z n17)]⟩ rfl ⟨bt,rfl,Ae⟩ ?_
  refine Xo z 4 9 (Gn (z+2)++clo 77 (z+2) B1++clo 79 (z+2) B2++clo 81 (z+2) B3) [(.func (.func 81) #[] #[pt (z+2),pt n17]:Value)] (fun v:Value=>[v]) 96 1 8 (.slice aL3 ((Gn (z+2)++clo 77 (z+2) B1++clo 79 (z+2) B2++clo 81 (z+2) B3).length) cL3) (n17+1) 1 1 #[.func (.func 81) #[] #[pt (z+2),pt n17]] 96 (0,0) true (some 44) (by simp only[List.length_cons,List.length_nil];omega) (by simp only[List.length_cons,List.length_nil];omega) (show z≤n17+2 by omega) (fun ax19 cp20 n21 (hn22:n17+2≤n21) => ?_)
  refine Bv 5 0 [] [[o0],[(ov (i6 ((k0+1:Nat):Int))),o0]] [Wr ((k0:Int)+1) (((k0+1:Nat):Int))] [(GY z),(Qm c),(38,i6 ((k0+1:Nat):Int)),(ZQ z n17 ax19 B1 B2 B3 cp20)] rfl ⟨Dk,Ae⟩ ?_
  refine ZaH 7 8 [0,1,2,3,4,5,6,9] 3 B3 n17 k0 [(Ak w),(CU z c),(D7 z),(CX z c),(Zo z n17 ax19 B1 B2 B3 cp20),(caps 3 B1),(caps 3 B2),(qdvx_1 z n17)] hB3 ?_
  refine C9 [0,1,2,3,4,5,6,8] [(Ak w),(CU z c),(D7 z),(CX z c),(Zo z n17 ax19 B1 B2 B3 cp20),(caps 3 B1),(caps 3 B2),(caps 3 (B3++[n17]))] rfl rfl ?_
  refine Cb [1,3,37,38] [(GY z),(ZQ z n17 ax19 B1 B2 B3 cp20),(Qm c),(38,i6 ((k0+1:Nat):Int))] ?_
  refine CS (fun a w' hs=>⟨c.Ar.xs.length - (k0+1),by omega,n21,(k0+1),(B3++[n17]),ax19,cp20,rfl,by omega,by omega,(by rw[List.length_append,hB3];rfl),(by(try dsimp only[qdvx_1,D7,CX,CU,Zo,SY,QT,OA,ZQ,LD,NP,Qm,GY]at hs ⊢);rw[Yl,←List.append_assoc];exact hs)⟩)
 refine q_c 12 3 [0] [[oF],[o0,o0,o0]] [BF ((k0:Int)<(c.Ar.xs.length:Int))] [(46,.slice aL3 ((Gn (z+2)++clo 77 (z+2) B1++clo 79 (z+2) B2++clo 81 (z+2) B3).length) cL3),(48,.slice (some ⟨n17,0,none⟩) 1 1)] ⟨w,n17+1,[(Ak w),(CU z c),(D7 z),(CX z c),(SY z B1 B2 B3 aL3 cL3),(caps 3 B1),(caps 3 B2),(caps 3 B3),(DX z n17)]⟩ rfl ⟨bf,Ae⟩ ?_
 refine Xo z 4 8 (Gn (z+2)++clo 77 (z+2) B1++clo 79 (z+2) B2++clo 81 (z+2) B3) [(.func (.func 83) #[] #[pt (z+2)]:Value)] (fun v:Value=>[v]) 96 1 8 (.slice aL3 ((Gn (z+2)++clo 77 (z+2) B1++clo 79 (z+2) B2++clo 81 (z+2) B3).length) cL3) n17 1 1 #[.func (.func 83) #[] #[pt (z+2)]] 96 (0,0) true (some 49) (by simp only[List.length_cons,List.length_nil];omega) (by simp only[List.length_cons,List.length_nil];omega) (show z≤n17+1 by omega) (fun ax23 cp24 n25 (hn26:n17+1≤n25) => ?_)
 refine Bv 3 0 [] [[o0]] [] [(2,.slice ax23 ((Gn (z+2)++clo 77 (z+2) B1++clo 79 (z+2) B2++clo 81 (z+2) B3++[(.func (.func 83) #[] #[pt (z+2)]:Value)]).length) cp24)] rfl Ae ?_
 refine AP [] [] (.slice ax23 ((Gn (z+2)++clo 77 (z+2) B1++clo 79 (z+2) B2++clo 81 (z+2) B3++[(.func (.func 83) #[] #[pt (z+2)]:Value)]).length) cp24) Ae ?_
 intro w27 hw27
 refine⟨_,_,rfl,hw27, ?_⟩
 refine Bv 3 0 [] [[o0,o0]] [] [(CE z),(8,.slice ax23 ((Gn (z+2)++clo 77 (z+2) B1++clo 79 (z+2) B2++clo 81 (z+2) B3++[(.func (.func 83) #[] #[pt (z+2)]:Value)]).length) cp24),(9,i6 (((Gn (z+2)++clo 77 (z+2) B1++clo 79 (z+2) B2++clo 81 (z+2) B3++[(.func (.func 83) #[] #[pt (z+2)]:Value)]).length:Nat):Int)),(10,i6 0)] rfl Ae ?_
 refine DI (fun m a w'=>∃ (n29:Nat) (k:Nat) (aR:Option Addr) (cR:Nat),m=(asks (z+2) B1 B2 B3).length - k∧n25≤n29∧(k≤(asks (z+2) B1 B2 B3).length)∧(∀ i,i<k→gd (answers c) i=DF)∧St 25 [(CE z),(8,.slice aR ((asks (z+2) B1 B2 B3).length) cR),(DY z B1 B2 B3),(10,Aa k)] [] ⟨w,n29,[(Ak w),(CU z c),(D7 z),(CX z c),(BB z 96 1 (fun v:Value=>[v]) (.slice aR ((asks (z+2) B1 B2 B3).length) cR) (asks (z+2) B1 B2 B3)),(caps 3 B1),(caps 3 B2),(caps 3 B3),(DX z n17)]⟩ a w') ((asks (z+2) B1 B2 B3).length - 0) ?_ ?_
 ·intro a w' hs;exact⟨n25,0,ax23,cp24,rfl,Nat.le_refl _,Nat.zero_le _,fun i hi=>absurd hi (Nat.not_lt_zero i),hs⟩
 rintro m a w' ⟨n29,k,aR,cR,rfl,hn28,hkk,hf,hs⟩
 refine(?_:G Tryz.prog 25 [(CE z),(8,.slice aR ((asks (z+2) B1 B2 B3).length) cR),(DY z B1 B2 B3),(10,Aa k)] [] ⟨w,n29,[(Ak w),(CU z c),(D7 z),(CX z c),(BB z 96 1 (fun v:Value=>[v]) (.slice aR ((asks (z+2) B1 B2 B3).length) cR) (asks (z+2) B1 B2 B3)),(caps 3 B1),(caps 3 B2),(caps 3 B3),(DX z n17)]⟩ _ _ _) a w' hs
 clear hs a w'
 have hB1:B1.length=c.Ac.xs.length:=by omega
 have hB2:B2.length=c.Aj.xs.length:=by omega
 have hB3:B3.length=c.Ar.xs.length:=by omega
 have htot:(asks (z+2) B1 B2 B3).length=_:=asks_len
 refine Dl ?_
 by_cases h30:(k:Int)<(((asks (z+2) B1 B2 B3).length:Nat):Int)
 ·refine A8 10 0 [1] [[oT]] [BT ((k:Int)<(((asks (z+2) B1 B2 B3).length:Nat):Int))] [(CE z),(8,.slice aR ((asks (z+2) B1 B2 B3).length) cR),(DY z B1 B2 B3),(10,Aa k),(11,.bool true)] rfl ⟨bt,Ae⟩ ?_
  rcases kinds (c:=c) (bc:=z+2) hB1 hB2 hB3 (k:=k) (by omega)with⟨hk0,hv,ha⟩ | ⟨hk0,hv,ha⟩ | ⟨hk0,hv,ha⟩ | ⟨hk0,hv,ha⟩ | ⟨hk0,hv,ha⟩ | ⟨p,b,hk0,hp,hb,hv,ha⟩ | ⟨p,b,hk0,hp,hb,hv,ha⟩ | ⟨p,b,hk0,hp,hb,hv,ha⟩ | ⟨hk0,hv,ha⟩
  ·refine Ky (base:=z) (e:=96) (sz:=1) (cells:=(fun v:Value=>[v])) (a:=aR) (n:=((asks (z+2) B1 B2 B3).length)) (cap:=cR) (xs:=(asks (z+2) B1 B2 B3)) 4 (by omega) (fun b31 hg32 hb33 => ?_)
   subst hg32
   refine A8 5 1 [] [[(oi k),(oa [.via 4 (.func (.func 70) #[] #[pt (z+2)])]),o0],[o0]] [Ea k,k<(asks (z+2) B1 B2 B3).length,Ec,∀ w',Ch.holds (Tj z B1 B2 B3 b31 cR) w'→w'.cell? ⟨b31,0+k,none⟩=some (.func (.func 70) #[] #[pt (z+2)])] [(CE z),(UH z B1 B2 B3 b31 cR),(DY z B1 B2 B3),(10,Aa k),(14,.func (.func 70) #[] #[pt (z+2)])] rfl ⟨rfl,(by omega),rfl,Jm (sz:=1) (j:=k) (k:=0) (fun _=>rfl) (by omega) (congrArg some hv),Ae⟩ ?_
   refine BV 70 #[pt (z+2)] (some 15) (.agg (Am.arr (Ht c))) (fun w34 hw34=>q1_calls w34 (hL.ext (hw34.ext rfl)) c (hc.ext (hw34.ext rfl) (fun _ h=>h)) (z+2) (LJ hw34 (i:=3))) (fun n35 (hn36:n29≤n35) => ?_)
   refine EG 3 0 [] [[o0,(an 3 9)]] [Qb n35,Qb n35,Qb n35] [(CE z),(UH z B1 B2 B3 b31 cR),(DY z B1 B2 B3),(10,Aa k),(6,pt n35)] ⟨w,n35+1,[(Ak w),(CU z c),(D7 z),(CX z c),(Tj z B1 B2 B3 b31 cR),(caps 3 B1),(caps 3 B2),(caps 3 B3),(DX z n17),(XJ c n35)]⟩ rfl ⟨rfl,rfl,rfl,Ae⟩ ?_
   by_cases h37:(((Ht c).e:Int)==(0:Int)&&((((Ht c).Ag.First:Int)==(0:Int)&&(((Ht c).Ag.Second:Int)==(0:Int)&&true))&&true))=true
   ·refine A8 9 0 [0] [[(an 3 9),(oa [.via 0 (i6 0),.via 0 (i6 0),.via 0 (i6 0)]),⟨.seq true,none⟩],[(ov (i6 ((k+1:Nat):Int))),o0]] [Qb n35,Qb n35,Qb n35,Old w 0 0 (i6 0),Old w 0 1 (i6 0),Old w 0 2 (i6 0),(((Ht c).e:Int)==(0:Int)&&((((Ht c).Ag.First:Int)==(0:Int)&&(((Ht c).Ag.Second:Int)==(0:Int)&&true))&&true))=true,Wr ((k:Int)+1) (((k+1:Nat):Int))] [(CE z),(UH z B1 B2 B3 b31 cR),(DY z B1 B2 B3),(Jc k)] rfl ⟨rfl,rfl,rfl,Aw (hL.2 0 _ rfl),Aw (hL.2 1 _ rfl),Aw (hL.2 2 _ rfl),h37,Dk,Ae⟩ ?_
    refine C9 [0,1,2,3,4,5,6,7,8] [(Ak w),(CU z c),(D7 z),(CX z c),(Tj z B1 B2 B3 b31 cR),(caps 3 B1),(caps 3 B2),(caps 3 B3),(DX z n17)] rfl rfl ?_
    refine Cb [3,8,9,10] [(CE z),(UH z B1 B2 B3 b31 cR),(DY z B1 B2 B3),(Jc k)] ?_
    refine CS (fun a w' hs=>⟨(asks (z+2) B1 B2 B3).length - (k+1),by omega,(n35+1),(k+1),(some ⟨b31,0,none⟩),cR,rfl,by omega,by omega,Ia hf (by rw[ha];exact FP.1 h37),hs⟩)
   refine A8 5 0 [1] [[(an 3 9),(oa [.via 0 (i6 0),.via 0 (i6 0),.via 0 (i6 0)]),⟨.seq false,none⟩]] [Qb n35,Qb n35,Qb n35,Old w 0 0 (i6 0),Old w 0 1 (i6 0),Old w 0 2 (i6 0),(((Ht c).e:Int)==(0:Int)&&((((Ht c).Ag.First:Int)==(0:Int)&&(((Ht c).Ag.Second:Int)==(0:Int)&&true))&&true))=false] [(CE z),(UH z B1 B2 B3 b31 cR),(DY z B1 B2 B3),(10,Aa k),(6,pt n35),(18,.bool true)] rfl ⟨rfl,rfl,rfl,Aw (hL.2 0 _ rfl),Aw (hL.2 1 _ rfl),Aw (hL.2 2 _ rfl),(Bool.eq_false_iff.2 h37),Ae⟩ ?_
   refine DK 5 [0,1,2,3,4,5,6,7,8,9] [(Ak w),(CU z c),(D7 z),(CX z c),(Tj z B1 B2 B3 b31 cR),(caps 3 B1),(caps 3 B2),(caps 3 B3),(DX z n17),(XJ c n35)] rfl rfl ?_
   refine CP [(0,o0),(1,(a1 9)),(2,o0),(3,(an 2 9)),(4,o0)] [3,22,2] [Qb n35,Qb n35,Qb n35] (Dy 5 1) [(CE z),(22,.agg #[i6 ((Ht c).Ag.First),i6 ((Ht c).Ag.Second)]),(2,i6 ((Ht c).e))] ⟨rfl,rfl,rfl,Ae⟩ ?_
   refine AV 5 ?_
   refine Bi (an 2 2) [3,2] [Qb (z+1),Qb (z+1)] [(CE z),(2,i6 ((Ht c).e))] ⟨w,n35+1,[(Ak w),(CU z c),(qdvx_6 z c),(CX z c),(Tj z B1 B2 B3 b31 cR),(caps 3 B1),(caps 3 B2),(caps 3 B3),(DX z n17),(XJ c n35)]⟩ [] ⟨rfl,rfl,Ae⟩ (.inl rfl) ?_
   refine D9 6 [0,1,2,3,4,5,6,7,8,9] [(Ak w),(CU z c),(qdvx_6 z c),(CX z c),(Tj z B1 B2 B3 b31 cR),(caps 3 B1),(caps 3 B2),(caps 3 B3),(DX z n17),(XJ c n35)] rfl rfl ?_
   refine CQ ?_
   refine Cb [3,2] [(CE z),(2,i6 ((Ht c).e))] ?_
   refine FX <| Jh <| AP [.at 2,.at 2] [Qb (z+1),Qb (z+1)] (.tuple #[i6 ((Ht c).e),.agg #[i6 ((Ht c).Ag.First),i6 ((Ht c).Ag.Second)]]) ⟨rfl,rfl,Ae⟩ ?_
   intro w38 hw38
   exact⟨congrArg (fun t:Am=>Ending.returned (.tuple #[i6 t.e,.agg #[i6 t.Ag.First,i6 t.Ag.Second]])) ((Py (xs:=answers c) (k:=k) (by rw[J5];omega) hf (by rw[ha];exact fun x=>h37 (FP.2 x))).trans ha).symm,Au hw38⟩
  ·refine Ky (base:=z) (e:=96) (sz:=1) (cells:=(fun v:Value=>[v])) (a:=aR) (n:=((asks (z+2) B1 B2 B3).length)) (cap:=cR) (xs:=(asks (z+2) B1 B2 B3)) 4 (by omega) (fun b39 hg40 hb41 => ?_)
   subst hg40
   refine A8 5 1 [] [[(oi k),(oa [.via 4 (.func (.func 73) #[] #[pt (z+2)])]),o0],[o0]] [Ea k,k<(asks (z+2) B1 B2 B3).length,Ec,∀ w',Ch.holds (SS z B1 B2 B3 cR b39) w'→w'.cell? ⟨b39,0+k,none⟩=some (.func (.func 73) #[] #[pt (z+2)])] [(CE z),(UZ z B1 B2 B3 cR b39),(DY z B1 B2 B3),(10,Aa k),(14,.func (.func 73) #[] #[pt (z+2)])] rfl ⟨rfl,(by omega),rfl,Jm (sz:=1) (j:=k) (k:=0) (fun _=>rfl) (by omega) (congrArg some hv),Ae⟩ ?_
   refine BV 73 #[pt (z+2)] (some 15) (.agg (Am.arr (whole2 c))) (fun w42 hw42=>q2_calls w42 (hL.ext (hw42.ext rfl)) c (hc.ext (hw42.ext rfl) (fun _ h=>h)) (z+2) (LJ hw42 (i:=3))) (fun n43 (hn44:n29≤n43) => ?_)
   refine EG 3 0 [] [[o0,(an 3 9)]] [Qb n43,Qb n43,Qb n43] [(CE z),(UZ z B1 B2 B3 cR b39),(DY z B1 B2 B3),(10,Aa k),(6,pt n43)] ⟨w,n43+1,[(Ak w),(CU z c),(D7 z),(CX z c),(SS z B1 B2 B3 cR b39),(caps 3 B1),(caps 3 B2),(caps 3 B3),(DX z n17),(X5 c n43)]⟩ rfl ⟨rfl,rfl,rfl,Ae⟩ ?_
   by_cases h45:(((whole2 c).e:Int)==(0:Int)&&((((whole2 c).Ag.First:Int)==(0:Int)&&(((whole2 c).Ag.Second:Int)==(0:Int)&&true))&&true))=true
   ·refine A8 9 0 [0] [[(an 3 9),(oa [.via 0 (i6 0),.via 0 (i6 0),.via 0 (i6 0)]),⟨.seq true,none⟩],[(ov (i6 ((k+1:Nat):Int))),o0]] [Qb n43,Qb n43,Qb n43,Old w 0 0 (i6 0),Old w 0 1 (i6 0),Old w 0 2 (i6 0),(((whole2 c).e:Int)==(0:Int)&&((((whole2 c).Ag.First:Int)==(0:Int)&&(((whole2 c).Ag.Second:Int)==(0:Int)&&true))&&true))=true,Wr ((k:Int)+1) (((k+1:Nat):Int))] [(CE z),(UZ z B1 B2 B3 cR b39),(DY z B1 B2 B3),(Jc k)] rfl ⟨rfl,rfl,rfl,Aw (hL.2 0 _ rfl),Aw (hL.2 1 _ rfl),Aw (hL.2 2 _ rfl),h45,Dk,Ae⟩ ?_
    refine C9 [0,1,2,3,4,5,6,7,8] [(Ak w),(CU z c),(D7 z),(CX z c),(SS z B1 B2 B3 cR b39),(caps 3 B1),(caps 3 B2),(caps 3 B3),(DX z n17)] rfl rfl ?_
    refine Cb [3,8,9,10] [(CE z),(UZ z B1 B2 B3 cR b39),(DY z B1 B2 B3),(Jc k)] ?_
    refine CS (fun a w' hs=>⟨(asks (z+2) B1 B2 B3).length - (k+1),by omega,(n43+1),(k+1),(some ⟨b39,0,none⟩),cR,rfl,by omega,by omega,Ia hf (by rw[ha];exact FP.1 h45),hs⟩)
   refine A8 5 0 [1] [[(an 3 9),(oa [.via 0 (i6 0),.via 0 (i6 0),.via 0 (i6 0)]),⟨.seq false,none⟩]] [Qb n43,Qb n43,Qb n43,Old w 0 0 (i6 0),Old w 0 1 (i6 0),Old w 0 2 (i6 0),(((whole2 c).e:Int)==(0:Int)&&((((whole2 c).Ag.First:Int)==(0:Int)&&(((whole2 c).Ag.Second:Int)==(0:Int)&&true))&&true))=false] [(CE z),(UZ z B1 B2 B3 cR b39),(DY z B1 B2 B3),(10,Aa k),(6,pt n43),(18,.bool true)] rfl ⟨rfl,rfl,rfl,Aw (hL.2 0 _ rfl),Aw (hL.2 1 _ rfl),Aw (hL.2 2 _ rfl),(Bool.eq_false_iff.2 h45),Ae⟩ ?_
   refine DK 5 [0,1,2,3,4,5,6,7,8,9] [(Ak w),(CU z c),(D7 z),(CX z c),(SS z B1 B2 B3 cR b39),(caps 3 B1),(caps 3 B2),(caps 3 B3),(DX z n17),(X5 c n43)] rfl rfl ?_
   refine CP [(0,o0),(1,(a1 9)),(2,o0),(3,(an 2 9)),(4,o0)] [3,22,2] [Qb n43,Qb n43,Qb n43] (Dy 5 1) [(CE z),(22,.agg #[i6 ((whole2 c).Ag.First),i6 ((whole2 c).Ag.Second)]),(2,i6 ((whole2 c).e))] ⟨rfl,rfl,rfl,Ae⟩ ?_
   refine AV 5 ?_
   refine Bi (an 2 2) [3,2] [Qb (z+1),Qb (z+1)] [(CE z),(2,i6 ((whole2 c).e))] ⟨w,n43+1,[(Ak w),(CU z c),(qdvx_7 z c),(CX z c),(SS z B1 B2 B3 cR b39),(caps 3 B1),(caps 3 B2),(caps 3 B3),(DX z n17),(X5 c n43)]⟩ [] ⟨rfl,rfl,Ae⟩ (.inl rfl) ?_
   refine D9 6 [0,1,2,3,4,5,6,7,8,9] [(Ak w),(CU z c),(qdvx_7 z c),(CX z c),(SS z B1 B2 B3 cR b39),(caps 3 B1),(caps 3 B2),(caps 3 B3),(DX z n17),(X5 c n43)] rfl rfl ?_
   refine CQ ?_
   refine Cb [3,2] [(CE z),(2,i6 ((whole2 c).e))] ?_
   refine FX <| Jh <| AP [.at 2,.at 2] [Qb (z+1),Qb (z+1)] (.tuple #[i6 ((whole2 c).e),.agg #[i6 ((whole2 c).Ag.First),i6 ((whole2 c).Ag.Second)]]) ⟨rfl,rfl,Ae⟩ ?_
   intro w46 hw46
   exact⟨congrArg (fun t:Am=>Ending.returned (.tuple #[i6 t.e,.agg #[i6 t.Ag.First,i6 t.Ag.Second]])) ((Py (xs:=answers c) (k:=k) (by rw[J5];omega) hf (by rw[ha];exact fun x=>h45 (FP.2 x))).trans ha).symm,Au hw46⟩
  ·refine Ky (base:=z) (e:=96) (sz:=1) (cells:=(fun v:Value=>[v])) (a:=aR) (n:=((asks (z+2) B1 B2 B3).length)) (cap:=cR) (xs:=(asks (z+2) B1 B2 B3)) 4 (by omega) (fun b47 hg48 hb49 => ?_)
   subst hg48
   refine A8 5 1 [] [[(oi k),(oa [.via 4 (.func (.func 74) #[] #[pt (z+2)])]),o0],[o0]] [Ea k,k<(asks (z+2) B1 B2 B3).length,Ec,∀ w',Ch.holds (TC z B1 B2 B3 cR b47) w'→w'.cell? ⟨b47,0+k,none⟩=some (.func (.func 74) #[] #[pt (z+2)])] [(CE z),(Vl z B1 B2 B3 cR b47),(DY z B1 B2 B3),(10,Aa k),(14,.func (.func 74) #[] #[pt (z+2)])] rfl ⟨rfl,(by omega),rfl,Jm (sz:=1) (j:=k) (k:=0) (fun _=>rfl) (by omega) (congrArg some hv),Ae⟩ ?_
   refine BV 74 #[pt (z+2)] (some 15) (.agg (Am.arr (Ha c))) (fun w50 hw50=>q3_calls w50 (hL.ext (hw50.ext rfl)) c (hc.ext (hw50.ext rfl) (fun _ h=>h)) (z+2) (LJ hw50 (i:=3))) (fun n51 (hn52:n29≤n51) => ?_)
   refine EG 3 0 [] [[o0,(an 3 9)]] [Qb n51,Qb n51,Qb n51] [(CE z),(Vl z B1 B2 B3 cR b47),(DY z B1 B2 B3),(10,Aa k),(6,pt n51)] ⟨w,n51+1,[(Ak w),(CU z c),(D7 z),(CX z c),(TC z B1 B2 B3 cR b47),(caps 3 B1),(caps 3 B2),(caps 3 B3),(DX z n17),(Xp c n51)]⟩ rfl ⟨rfl,rfl,rfl,Ae⟩ ?_
   by_cases h53:(((Ha c).e:Int)==(0:Int)&&((((Ha c).Ag.First:Int)==(0:Int)&&(((Ha c).Ag.Second:Int)==(0:Int)&&true))&&true))=true
   ·refine A8 9 0 [0] [[(an 3 9),(oa [.via 0 (i6 0),.via 0 (i6 0),.via 0 (i6 0)]),⟨.seq true,none⟩],[(ov (i6 ((k+1:Nat):Int))),o0]] [Qb n51,Qb n51,Qb n51,Old w 0 0 (i6 0),Old w 0 1 (i6 0),Old w 0 2 (i6 0),(((Ha c).e:Int)==(0:Int)&&((((Ha c).Ag.First:Int)==(0:Int)&&(((Ha c).Ag.Second:Int)==(0:Int)&&true))&&true))=true,Wr ((k:Int)+1) (((k+1:Nat):Int))] [(CE z),(Vl z B1 B2 B3 cR b47),(DY z B1 B2 B3),(Jc k)] rfl ⟨rfl,rfl,rfl,Aw (hL.2 0 _ rfl),Aw (hL.2 1 _ rfl),Aw (hL.2 2 _ rfl),h53,Dk,Ae⟩ ?_
    refine C9 [0,1,2,3,4,5,6,7,8] [(Ak w),(CU z c),(D7 z),(CX z c),(TC z B1 B2 B3 cR b47),(caps 3 B1),(caps 3 B2),(caps 3 B3),(DX z n17)] rfl rfl ?_
    refine Cb [3,8,9,10] [(CE z),(Vl z B1 B2 B3 cR b47),(DY z B1 B2 B3),(Jc k)] ?_
    refine CS (fun a w' hs=>⟨(asks (z+2) B1 B2 B3).length - (k+1),by omega,(n51+1),(k+1),(some ⟨b47,0,none⟩),cR,rfl,by omega,by omega,Ia hf (by rw[ha];exact FP.1 h53),hs⟩)
   refine A8 5 0 [1] [[(an 3 9),(oa [.via 0 (i6 0),.via 0 (i6 0),.via 0 (i6 0)]),⟨.seq false,none⟩]] [Qb n51,Qb n51,Qb n51,Old w 0 0 (i6 0),Old w 0 1 (i6 0),Old w 0 2 (i6 0),(((Ha c).e:Int)==(0:Int)&&((((Ha c).Ag.First:Int)==(0:Int)&&(((Ha c).Ag.Second:Int)==(0:Int)&&true))&&true))=false] [(CE z),(Vl z B1 B2 B3 cR b47),(DY z B1 B2 B3),(10,Aa k),(6,pt n51),(18,.bool true)] rfl ⟨rfl,rfl,rfl,Aw (hL.2 0 _ rfl),Aw (hL.2 1 _ rfl),Aw (hL.2 2 _ rfl),(Bool.eq_false_iff.2 h53),Ae⟩ ?_
   refine DK 5 [0,1,2,3,4,5,6,7,8,9] [(Ak w),(CU z c),(D7 z),(CX z c),(TC z B1 B2 B3 cR b47),(caps 3 B1),(caps 3 B2),(caps 3 B3),(DX z n17),(Xp c n51)] rfl rfl ?_
   refine CP [(0,o0),(1,(a1 9)),(2,o0),(3,(an 2 9)),(4,o0)] [3,22,2] [Qb n51,Qb n51,Qb n51] (Dy 5 1) [(CE z),(22,.agg #[i6 ((Ha c).Ag.First),i6 ((Ha c).Ag.Second)]),(2,i6 ((Ha c).e))] ⟨rfl,rfl,rfl,Ae⟩ ?_
   refine AV 5 ?_
   refine Bi (an 2 2) [3,2] [Qb (z+1),Qb (z+1)] [(CE z),(2,i6 ((Ha c).e))] ⟨w,n51+1,[(Ak w),(CU z c),(qdvx_8 z c),(CX z c),(TC z B1 B2 B3 cR b47),(caps 3 B1),(caps 3 B2),(caps 3 B3),(DX z n17),(Xp c n51)]⟩ [] ⟨rfl,rfl,Ae⟩ (.inl rfl) ?_
   refine D9 6 [0,1,2,3,4,5,6,7,8,9] [(Ak w),(CU z c),(qdvx_8 z c),(CX z c),(TC z B1 B2 B3 cR b47),(caps 3 B1),(caps 3 B2),(caps 3 B3),(DX z n17),(Xp c n51)] rfl rfl ?_
   refine CQ ?_
   refine Cb [3,2] [(CE z),(2,i6 ((Ha c).e))] ?_
   refine FX <| Jh <| AP [.at 2,.at 2] [Qb (z+1),Qb (z+1)] (.tuple #[i6 ((Ha c).e),.agg #[i6 ((Ha c).Ag.First),i6 ((Ha c).Ag.Second)]]) ⟨rfl,rfl,Ae⟩ ?_
   intro w54 hw54
   exact⟨congrArg (fun t:Am=>Ending.returned (.tuple #[i6 t.e,.agg #[i6 t.Ag.First,i6 t.Ag.Second]])) ((Py (xs:=answers c) (k:=k) (by rw[J5];omega) hf (by rw[ha];exact fun x=>h53 (FP.2 x))).trans ha).symm,Au hw54⟩
  ·refine Ky (base:=z) (e:=96) (sz:=1) (cells:=(fun v:Value=>[v])) (a:=aR) (n:=((asks (z+2) B1 B2 B3).length)) (cap:=cR) (xs:=(asks (z+2) B1 B2 B3)) 4 (by omega) (fun b55 hg56 hb57 => ?_)
   subst hg56
   refine A8 5 1 [] [[(oi k),(oa [.via 4 (.func (.func 75) #[] #[pt (z+2)])]),o0],[o0]] [Ea k,k<(asks (z+2) B1 B2 B3).length,Ec,∀ w',Ch.holds (TB z B1 B2 B3 cR b55) w'→w'.cell? ⟨b55,0+k,none⟩=some (.func (.func 75) #[] #[pt (z+2)])] [(CE z),(UQ z B1 B2 B3 cR b55),(DY z B1 B2 B3),(10,Aa k),(14,.func (.func 75) #[] #[pt (z+2)])] rfl ⟨rfl,(by omega),rfl,Jm (sz:=1) (j:=k) (k:=0) (fun _=>rfl) (by omega) (congrArg some hv),Ae⟩ ?_
   refine BV 75 #[pt (z+2)] (some 15) (.agg (Am.arr (Hf c))) (fun w58 hw58=>q4_calls w58 (hL.ext (hw58.ext rfl)) c (hc.ext (hw58.ext rfl) (fun _ h=>h)) (z+2) (LJ hw58 (i:=3))) (fun n59 (hn60:n29≤n59) => ?_)
   refine EG 3 0 [] [[o0,(an 3 9)]] [Qb n59,Qb n59,Qb n59] [(CE z),(UQ z B1 B2 B3 cR b55),(DY z B1 B2 B3),(10,Aa k),(6,pt n59)] ⟨w,n59+1,[(Ak w),(CU z c),(D7 z),(CX z c),(TB z B1 B2 B3 cR b55),(caps 3 B1),(caps 3 B2),(caps 3 B3),(DX z n17),(Xl c n59)]⟩ rfl ⟨rfl,rfl,rfl,Ae⟩ ?_
   by_cases h61:(((Hf c).e:Int)==(0:Int)&&((((Hf c).Ag.First:Int)==(0:Int)&&(((Hf c).Ag.Second:Int)==(0:Int)&&true))&&true))=true
   ·refine A8 9 0 [0] [[(an 3 9),(oa [.via 0 (i6 0),.via 0 (i6 0),.via 0 (i6 0)]),⟨.seq true,none⟩],[(ov (i6 ((k+1:Nat):Int))),o0]] [Qb n59,Qb n59,Qb n59,Old w 0 0 (i6 0),Old w 0 1 (i6 0),Old w 0 2 (i6 0),(((Hf c).e:Int)==(0:Int)&&((((Hf c).Ag.First:Int)==(0:Int)&&(((Hf c).Ag.Second:Int)==(0:Int)&&true))&&true))=true,Wr ((k:Int)+1) (((k+1:Nat):Int))] [(CE z),(UQ z B1 B2 B3 cR b55),(DY z B1 B2 B3),(Jc k)] rfl ⟨rfl,rfl,rfl,Aw (hL.2 0 _ rfl),Aw (hL.2 1 _ rfl),Aw (hL.2 2 _ rfl),h61,Dk,Ae⟩ ?_
    refine C9 [0,1,2,3,4,5,6,7,8] [(Ak w),(CU z c),(D7 z),(CX z c),(TB z B1 B2 B3 cR b55),(caps 3 B1),(caps 3 B2),(caps 3 B3),(DX z n17)] rfl rfl ?_
    refine Cb [3,8,9,10] [(CE z),(UQ z B1 B2 B3 cR b55),(DY z B1 B2 B3),(Jc k)] ?_
    refine CS (fun a w' hs=>⟨(asks (z+2) B1 B2 B3).length - (k+1),by omega,(n59+1),(k+1),(some ⟨b55,0,none⟩),cR,rfl,by omega,by omega,Ia hf (by rw[ha];exact FP.1 h61),hs⟩)
   refine A8 5 0 [1] [[(an 3 9),(oa [.via 0 (i6 0),.via 0 (i6 0),.via 0 (i6 0)]),⟨.seq false,none⟩]] [Qb n59,Qb n59,Qb n59,Old w 0 0 (i6 0),Old w 0 1 (i6 0),Old w 0 2 (i6 0),(((Hf c).e:Int)==(0:Int)&&((((Hf c).Ag.First:Int)==(0:Int)&&(((Hf c).Ag.Second:Int)==(0:Int)&&true))&&true))=false] [(CE z),(UQ z B1 B2 B3 cR b55),(DY z B1 B2 B3),(10,Aa k),(6,pt n59),(18,.bool true)] rfl ⟨rfl,rfl,rfl,Aw (hL.2 0 _ rfl),Aw (hL.2 1 _ rfl),Aw (hL.2 2 _ rfl),(Bool.eq_false_iff.2 h61),Ae⟩ ?_
   refine DK 5 [0,1,2,3,4,5,6,7,8,9] [(Ak w),(CU z c),(D7 z),(CX z c),(TB z B1 B2 B3 cR b55),(caps 3 B1),(caps 3 B2),(caps 3 B3),(DX z n17),(Xl c n59)] rfl rfl ?_
   refine CP [(0,o0),(1,(a1 9)),(2,o0),(3,(an 2 9)),(4,o0)] [3,22,2] [Qb n59,Qb n59,Qb n59] (Dy 5 1) [(CE z),(22,.agg #[i6 ((Hf c).Ag.First),i6 ((Hf c).Ag.Second)]),(2,i6 ((Hf c).e))] ⟨rfl,rfl,rfl,Ae⟩ ?_
   refine AV 5 ?_
   refine Bi (an 2 2) [3,2] [Qb (z+1),Qb (z+1)] [(CE z),(2,i6 ((Hf c).e))] ⟨w,n59+1,[(Ak w),(CU z c),(qdvx_9 z c),(CX z c),(TB z B1 B2 B3 cR b55),(caps 3 B1),(caps 3 B2),(caps 3 B3),(DX z n17),(Xl c n59)]⟩ [] ⟨rfl,rfl,Ae⟩ (.inl rfl) ?_
   refine D9 6 [0,1,2,3,4,5,6,7,8,9] [(Ak w),(CU z c),(qdvx_9 z c),(CX z c),(TB z B1 B2 B3 cR b55),(caps 3 B1),(caps 3 B2),(caps 3 B3),(DX z n17),(Xl c n59)] rfl rfl ?_
   refine CQ ?_
   refine Cb [3,2] [(CE z),(2,i6 ((Hf c).e))] ?_
   refine FX <| Jh <| AP [.at 2,.at 2] [Qb (z+1),Qb (z+1)] (.tuple #[i6 ((Hf c).e),.agg #[i6 ((Hf c).Ag.First),i6 ((Hf c).Ag.Second)]]) ⟨rfl,rfl,Ae⟩ ?_
   intro w62 hw62
   exact⟨congrArg (fun t:Am=>Ending.returned (.tuple #[i6 t.e,.agg #[i6 t.Ag.First,i6 t.Ag.Second]])) ((Py (xs:=answers c) (k:=k) (by rw[J5];omega) hf (by rw[ha];exact fun x=>h61 (FP.2 x))).trans ha).symm,Au hw62⟩
  ·refine Ky (base:=z) (e:=96) (sz:=1) (cells:=(fun v:Value=>[v])) (a:=aR) (n:=((asks (z+2) B1 B2 B3).length)) (cap:=cR) (xs:=(asks (z+2) B1 B2 B3)) 4 (by omega) (fun b63 hg64 hb65 => ?_)
   subst hg64
   refine A8 5 1 [] [[(oi k),(oa [.via 4 (.func (.func 76) #[] #[pt (z+2)])]),o0],[o0]] [Ea k,k<(asks (z+2) B1 B2 B3).length,Ec,∀ w',Ch.holds (Tq z B1 B2 B3 cR b63) w'→w'.cell? ⟨b63,0+k,none⟩=some (.func (.func 76) #[] #[pt (z+2)])] [(CE z),(UW z B1 B2 B3 cR b63),(DY z B1 B2 B3),(10,Aa k),(14,.func (.func 76) #[] #[pt (z+2)])] rfl ⟨rfl,(by omega),rfl,Jm (sz:=1) (j:=k) (k:=0) (fun _=>rfl) (by omega) (congrArg some hv),Ae⟩ ?_
   refine BV 76 #[pt (z+2)] (some 15) (.agg (Am.arr (GR c))) (fun w66 hw66=>q5_calls w66 (hL.ext (hw66.ext rfl)) c (hc.ext (hw66.ext rfl) (fun _ h=>h)) (z+2) (LJ hw66 (i:=3))) (fun n67 (hn68:n29≤n67) => ?_)
   refine EG 3 0 [] [[o0,(an 3 9)]] [Qb n67,Qb n67,Qb n67] [(CE z),(UW z B1 B2 B3 cR b63),(DY z B1 B2 B3),(10,Aa k),(6,pt n67)] ⟨w,n67+1,[(Ak w),(CU z c),(D7 z),(CX z c),(Tq z B1 B2 B3 cR b63),(caps 3 B1),(caps 3 B2),(caps 3 B3),(DX z n17),(XK c n67)]⟩ rfl ⟨rfl,rfl,rfl,Ae⟩ ?_
   by_cases h69:(((GR c).e:Int)==(0:Int)&&((((GR c).Ag.First:Int)==(0:Int)&&(((GR c).Ag.Second:Int)==(0:Int)&&true))&&true))=true
   ·refine A8 9 0 [0] [[(an 3 9),(oa [.via 0 (i6 0),.via 0 (i6 0),.via 0 (i6 0)]),⟨.seq true,none⟩],[(ov (i6 ((k+1:Nat):Int))),o0]] [Qb n67,Qb n67,Qb n67,Old w 0 0 (i6 0),Old w 0 1 (i6 0),Old w 0 2 (i6 0),(((GR c).e:Int)==(0:Int)&&((((GR c).Ag.First:Int)==(0:Int)&&(((GR c).Ag.Second:Int)==(0:Int)&&true))&&true))=true,Wr ((k:Int)+1) (((k+1:Nat):Int))] [(CE z),(UW z B1 B2 B3 cR b63),(DY z B1 B2 B3),(Jc k)] rfl ⟨rfl,rfl,rfl,Aw (hL.2 0 _ rfl),Aw (hL.2 1 _ rfl),Aw (hL.2 2 _ rfl),h69,Dk,Ae⟩ ?_
    refine C9 [0,1,2,3,4,5,6,7,8] [(Ak w),(CU z c),(D7 z),(CX z c),(Tq z B1 B2 B3 cR b63),(caps 3 B1),(caps 3 B2),(caps 3 B3),(DX z n17)] rfl rfl ?_
    refine Cb [3,8,9,10] [(CE z),(UW z B1 B2 B3 cR b63),(DY z B1 B2 B3),(Jc k)] ?_
    refine CS (fun a w' hs=>⟨(asks (z+2) B1 B2 B3).length - (k+1),by omega,(n67+1),(k+1),(some ⟨b63,0,none⟩),cR,rfl,by omega,by omega,Ia hf (by rw[ha];exact FP.1 h69),hs⟩)
   refine A8 5 0 [1] [[(an 3 9),(oa [.via 0 (i6 0),.via 0 (i6 0),.via 0 (i6 0)]),⟨.seq false,none⟩]] [Qb n67,Qb n67,Qb n67,Old w 0 0 (i6 0),Old w 0 1 (i6 0),Old w 0 2 (i6 0),(((GR c).e:Int)==(0:Int)&&((((GR c).Ag.First:Int)==(0:Int)&&(((GR c).Ag.Second:Int)==(0:Int)&&true))&&true))=false] [(CE z),(UW z B1 B2 B3 cR b63),(DY z B1 B2 B3),(10,Aa k),(6,pt n67),(18,.bool true)] rfl ⟨rfl,rfl,rfl,Aw (hL.2 0 _ rfl),Aw (hL.2 1 _ rfl),Aw (hL.2 2 _ rfl),(Bool.eq_false_iff.2 h69),Ae⟩ ?_
   refine DK 5 [0,1,2,3,4,5,6,7,8,9] [(Ak w),(CU z c),(D7 z),(CX z c),(Tq z B1 B2 B3 cR b63),(caps 3 B1),(caps 3 B2),(caps 3 B3),(DX z n17),(XK c n67)] rfl rfl ?_
   refine CP [(0,o0),(1,(a1 9)),(2,o0),(3,(an 2 9)),(4,o0)] [3,22,2] [Qb n67,Qb n67,Qb n67] (Dy 5 1) [(CE z),(22,.agg #[i6 ((GR c).Ag.First),i6 ((GR c).Ag.Second)]),(2,i6 ((GR c).e))] ⟨rfl,rfl,rfl,Ae⟩ ?_
   refine AV 5 ?_
   refine Bi (an 2 2) [3,2] [Qb (z+1),Qb (z+1)] [(CE z),(2,i6 ((GR c).e))] ⟨w,n67+1,[(Ak w),(CU z c),(qdvx_10 z c),(CX z c),(Tq z B1 B2 B3 cR b63),(caps 3 B1),(caps 3 B2),(caps 3 B3),(DX z n17),(XK c n67)]⟩ [] ⟨rfl,rfl,Ae⟩ (.inl rfl) ?_
   refine D9 6 [0,1,2,3,4,5,6,7,8,9] [(Ak w),(CU z c),(qdvx_10 z c),(CX z c),(Tq z B1 B2 B3 cR b63),(caps 3 B1),(caps 3 B2),(caps 3 B3),(DX z n17),(XK c n67)] rfl rfl ?_
   refine CQ ?_
   refine Cb [3,2] [(CE z),(2,i6 ((GR c).e))] ?_
   refine FX <| Jh <| AP [.at 2,.at 2] [Qb (z+1),Qb (z+1)] (.tuple #[i6 ((GR c).e),.agg #[i6 ((GR c).Ag.First),i6 ((GR c).Ag.Second)]]) ⟨rfl,rfl,Ae⟩ ?_
   intro w70 hw70
   exact⟨congrArg (fun t:Am=>Ending.returned (.tuple #[i6 t.e,.agg #[i6 t.Ag.First,i6 t.Ag.Second]])) ((Py (xs:=answers c) (k:=k) (by rw[J5];omega) hf (by rw[ha];exact fun x=>h69 (FP.2 x))).trans ha).symm,Au hw70⟩
  ·have hFr:=Za6 hf (by omega)
   have hpf:∀ q,q<p→Es c q=DF:=fun q hq=>Z9 hf (by omega) (by omega)
   refine Ky (base:=z) (e:=96) (sz:=1) (cells:=(fun v:Value=>[v])) (a:=aR) (n:=((asks (z+2) B1 B2 B3).length)) (cap:=cR) (xs:=(asks (z+2) B1 B2 B3)) 4 (by omega) (fun b71 hg72 hb73 => ?_)
   subst hg72
   refine A8 5 1 [] [[(oi k),(oa [.via 4 (.func (.func 77) #[] #[pt (z+2),pt b])]),o0],[o0]] [Ea k,k<(asks (z+2) B1 B2 B3).length,Ec,∀ w',Ch.holds (SE z B1 B2 B3 cR b71) w'→w'.cell? ⟨b71,0+k,none⟩=some (.func (.func 77) #[] #[pt (z+2),pt b])] [(CE z),(Vb z B1 B2 B3 cR b71),(DY z B1 B2 B3),(10,Aa k),(14,.func (.func 77) #[] #[pt (z+2),pt b])] rfl ⟨rfl,(by omega),rfl,Jm (sz:=1) (j:=k) (k:=0) (fun _=>rfl) (by omega) (congrArg some hv),Ae⟩ ?_
   refine BV 77 #[pt (z+2),pt b] (some 15) (.agg (Am.arr (Es c p))) (fun w74 hw74=>q6_calls w74 (hL.ext (hw74.ext rfl)) c (hc.ext (hw74.ext rfl) (fun _ h=>h)) (z+2) (LJ hw74 (i:=3)) b p (VM hw74 hb (i:=5)) hp hFr hpf) (fun n75 (hn76:n29≤n75) => ?_)
   refine EG 3 0 [] [[o0,(an 3 9)]] [Qb n75,Qb n75,Qb n75] [(CE z),(Vb z B1 B2 B3 cR b71),(DY z B1 B2 B3),(10,Aa k),(6,pt n75)] ⟨w,n75+1,[(Ak w),(CU z c),(D7 z),(CX z c),(SE z B1 B2 B3 cR b71),(caps 3 B1),(caps 3 B2),(caps 3 B3),(DX z n17),(Xr c p n75)]⟩ rfl ⟨rfl,rfl,rfl,Ae⟩ ?_
   by_cases h77:(((Es c p).e:Int)==(0:Int)&&((((Es c p).Ag.First:Int)==(0:Int)&&(((Es c p).Ag.Second:Int)==(0:Int)&&true))&&true))=true
   ·refine A8 9 0 [0] [[(an 3 9),(oa [.via 0 (i6 0),.via 0 (i6 0),.via 0 (i6 0)]),⟨.seq true,none⟩],[(ov (i6 ((k+1:Nat):Int))),o0]] [Qb n75,Qb n75,Qb n75,Old w 0 0 (i6 0),Old w 0 1 (i6 0),Old w 0 2 (i6 0),(((Es c p).e:Int)==(0:Int)&&((((Es c p).Ag.First:Int)==(0:Int)&&(((Es c p).Ag.Second:Int)==(0:Int)&&true))&&true))=true,Wr ((k:Int)+1) (((k+1:Nat):Int))] [(CE z),(Vb z B1 B2 B3 cR b71),(DY z B1 B2 B3),(Jc k)] rfl ⟨rfl,rfl,rfl,Aw (hL.2 0 _ rfl),Aw (hL.2 1 _ rfl),Aw (hL.2 2 _ rfl),h77,Dk,Ae⟩ ?_
    refine C9 [0,1,2,3,4,5,6,7,8] [(Ak w),(CU z c),(D7 z),(CX z c),(SE z B1 B2 B3 cR b71),(caps 3 B1),(caps 3 B2),(caps 3 B3),(DX z n17)] rfl rfl ?_
    refine Cb [3,8,9,10] [(CE z),(Vb z B1 B2 B3 cR b71),(DY z B1 B2 B3),(Jc k)] ?_
    refine CS (fun a w' hs=>⟨(asks (z+2) B1 B2 B3).length - (k+1),by omega,(n75+1),(k+1),(some ⟨b71,0,none⟩),cR,rfl,by omega,by omega,Ia hf (by rw[ha];exact FP.1 h77),hs⟩)
   refine A8 5 0 [1] [[(an 3 9),(oa [.via 0 (i6 0),.via 0 (i6 0),.via 0 (i6 0)]),⟨.seq false,none⟩]] [Qb n75,Qb n75,Qb n75,Old w 0 0 (i6 0),Old w 0 1 (i6 0),Old w 0 2 (i6 0),(((Es c p).e:Int)==(0:Int)&&((((Es c p).Ag.First:Int)==(0:Int)&&(((Es c p).Ag.Second:Int)==(0:Int)&&true))&&true))=false] [(CE z),(Vb z B1 B2 B3 cR b71),(DY z B1 B2 B3),(10,Aa k),(6,pt n75),(18,.bool true)] rfl ⟨rfl,rfl,rfl,Aw (hL.2 0 _ rfl),Aw (hL.2 1 _ rfl),Aw (hL.2 2 _ rfl),(Bool.eq_false_iff.2 h77),Ae⟩ ?_
   refine DK 5 [0,1,2,3,4,5,6,7,8,9] [(Ak w),(CU z c),(D7 z),(CX z c),(SE z B1 B2 B3 cR b71),(caps 3 B1),(caps 3 B2),(caps 3 B3),(DX z n17),(Xr c p n75)] rfl rfl ?_
   refine CP [(0,o0),(1,(a1 9)),(2,o0),(3,(an 2 9)),(4,o0)] [3,22,2] [Qb n75,Qb n75,Qb n75] (Dy 5 1) [(CE z),(22,.agg #[i6 ((Es c p).Ag.First),i6 ((Es c p).Ag.Second)]),(2,i6 ((Es c p).e))] ⟨rfl,rfl,rfl,Ae⟩ ?_
   refine AV 5 ?_
   refine Bi (an 2 2) [3,2] [Qb (z+1),Qb (z+1)] [(CE z),(2,i6 ((Es c p).e))] ⟨w,n75+1,[(Ak w),(CU z c),(qdvx_3 z c p),(CX z c),(SE z B1 B2 B3 cR b71),(caps 3 B1),(caps 3 B2),(caps 3 B3),(DX z n17),(Xr c p n75)]⟩ [] ⟨rfl,rfl,Ae⟩ (.inl rfl) ?_
   refine D9 6 [0,1,2,3,4,5,6,7,8,9] [(Ak w),(CU z c),(qdvx_3 z c p),(CX z c),(SE z B1 B2 B3 cR b71),(caps 3 B1),(caps 3 B2),(caps 3 B3),(DX z n17),(Xr c p n75)] rfl rfl ?_
   refine CQ ?_
   refine Cb [3,2] [(CE z),(2,i6 ((Es c p).e))] ?_
   refine FX <| Jh <| AP [.at 2,.at 2] [Qb (z+1),Qb (z+1)] (.tuple #[i6 ((Es c p).e),.agg #[i6 ((Es c p).Ag.First),i6 ((Es c p).Ag.Second)]]) ⟨rfl,rfl,Ae⟩ ?_
   intro w78 hw78
   exact⟨congrArg (fun t:Am=>Ending.returned (.tuple #[i6 t.e,.agg #[i6 t.Ag.First,i6 t.Ag.Second]])) ((Py (xs:=answers c) (k:=k) (by rw[J5];omega) hf (by rw[ha];exact fun x=>h77 (FP.2 x))).trans ha).symm,Au hw78⟩
  ·have hm:=parts_of hf (by omega);have hq:=ports_of hf (by omega)
   refine Ky (base:=z) (e:=96) (sz:=1) (cells:=(fun v:Value=>[v])) (a:=aR) (n:=((asks (z+2) B1 B2 B3).length)) (cap:=cR) (xs:=(asks (z+2) B1 B2 B3)) 4 (by omega) (fun b79 hg80 hb81 => ?_)
   subst hg80
   refine A8 5 1 [] [[(oi k),(oa [.via 4 (.func (.func 79) #[] #[pt (z+2),pt b])]),o0],[o0]] [Ea k,k<(asks (z+2) B1 B2 B3).length,Ec,∀ w',Ch.holds (Tn z B1 B2 B3 cR b79) w'→w'.cell? ⟨b79,0+k,none⟩=some (.func (.func 79) #[] #[pt (z+2),pt b])] [(CE z),(UF z B1 B2 B3 cR b79),(DY z B1 B2 B3),(10,Aa k),(14,.func (.func 79) #[] #[pt (z+2),pt b])] rfl ⟨rfl,(by omega),rfl,Jm (sz:=1) (j:=k) (k:=0) (fun _=>rfl) (by omega) (congrArg some hv),Ae⟩ ?_
   refine BV 79 #[pt (z+2),pt b] (some 15) (.agg (Am.arr (Em c p))) (fun w82 hw82=>q7_calls w82 (hL.ext (hw82.ext rfl)) c (hc.ext (hw82.ext rfl) (fun _ h=>h)) (z+2) (LJ hw82 (i:=3)) b p (VM hw82 hb (i:=6)) hp hm hq) (fun n83 (hn84:n29≤n83) => ?_)
   refine EG 3 0 [] [[o0,(an 3 9)]] [Qb n83,Qb n83,Qb n83] [(CE z),(UF z B1 B2 B3 cR b79),(DY z B1 B2 B3),(10,Aa k),(6,pt n83)] ⟨w,n83+1,[(Ak w),(CU z c),(D7 z),(CX z c),(Tn z B1 B2 B3 cR b79),(caps 3 B1),(caps 3 B2),(caps 3 B3),(DX z n17),(XM c p n83)]⟩ rfl ⟨rfl,rfl,rfl,Ae⟩ ?_
   by_cases h85:(((Em c p).e:Int)==(0:Int)&&((((Em c p).Ag.First:Int)==(0:Int)&&(((Em c p).Ag.Second:Int)==(0:Int)&&true))&&true))=true
   ·refine A8 9 0 [0] [[(an 3 9),(oa [.via 0 (i6 0),.via 0 (i6 0),.via 0 (i6 0)]),⟨.seq true,none⟩],[(ov (i6 ((k+1:Nat):Int))),o0]] [Qb n83,Qb n83,Qb n83,Old w 0 0 (i6 0),Old w 0 1 (i6 0),Old w 0 2 (i6 0),(((Em c p).e:Int)==(0:Int)&&((((Em c p).Ag.First:Int)==(0:Int)&&(((Em c p).Ag.Second:Int)==(0:Int)&&true))&&true))=true,Wr ((k:Int)+1) (((k+1:Nat):Int))] [(CE z),(UF z B1 B2 B3 cR b79),(DY z B1 B2 B3),(Jc k)] rfl ⟨rfl,rfl,rfl,Aw (hL.2 0 _ rfl),Aw (hL.2 1 _ rfl),Aw (hL.2 2 _ rfl),h85,Dk,Ae⟩ ?_
    refine C9 [0,1,2,3,4,5,6,7,8] [(Ak w),(CU z c),(D7 z),(CX z c),(Tn z B1 B2 B3 cR b79),(caps 3 B1),(caps 3 B2),(caps 3 B3),(DX z n17)] rfl rfl ?_
    refine Cb [3,8,9,10] [(CE z),(UF z B1 B2 B3 cR b79),(DY z B1 B2 B3),(Jc k)] ?_
    refine CS (fun a w' hs=>⟨(asks (z+2) B1 B2 B3).length - (k+1),by omega,(n83+1),(k+1),(some ⟨b79,0,none⟩),cR,rfl,by omega,by omega,Ia hf (by rw[ha];exact FP.1 h85),hs⟩)
   refine A8 5 0 [1] [[(an 3 9),(oa [.via 0 (i6 0),.via 0 (i6 0),.via 0 (i6 0)]),⟨.seq false,none⟩]] [Qb n83,Qb n83,Qb n83,Old w 0 0 (i6 0),Old w 0 1 (i6 0),Old w 0 2 (i6 0),(((Em c p).e:Int)==(0:Int)&&((((Em c p).Ag.First:Int)==(0:Int)&&(((Em c p).Ag.Second:Int)==(0:Int)&&true))&&true))=false] [(CE z),(UF z B1 B2 B3 cR b79),(DY z B1 B2 B3),(10,Aa k),(6,pt n83),(18,.bool true)] rfl ⟨rfl,rfl,rfl,Aw (hL.2 0 _ rfl),Aw (hL.2 1 _ rfl),Aw (hL.2 2 _ rfl),(Bool.eq_false_iff.2 h85),Ae⟩ ?_
   refine DK 5 [0,1,2,3,4,5,6,7,8,9] [(Ak w),(CU z c),(D7 z),(CX z c),(Tn z B1 B2 B3 cR b79),(caps 3 B1),(caps 3 B2),(caps 3 B3),(DX z n17),(XM c p n83)] rfl rfl ?_
   refine CP [(0,o0),(1,(a1 9)),(2,o0),(3,(an 2 9)),(4,o0)] [3,22,2] [Qb n83,Qb n83,Qb n83] (Dy 5 1) [(CE z),(22,.agg #[i6 ((Em c p).Ag.First),i6 ((Em c p).Ag.Second)]),(2,i6 ((Em c p).e))] ⟨rfl,rfl,rfl,Ae⟩ ?_
   refine AV 5 ?_
   refine Bi (an 2 2) [3,2] [Qb (z+1),Qb (z+1)] [(CE z),(2,i6 ((Em c p).e))] ⟨w,n83+1,[(Ak w),(CU z c),(qdvx_4 z c p),(CX z c),(Tn z B1 B2 B3 cR b79),(caps 3 B1),(caps 3 B2),(caps 3 B3),(DX z n17),(XM c p n83)]⟩ [] ⟨rfl,rfl,Ae⟩ (.inl rfl) ?_
   refine D9 6 [0,1,2,3,4,5,6,7,8,9] [(Ak w),(CU z c),(qdvx_4 z c p),(CX z c),(Tn z B1 B2 B3 cR b79),(caps 3 B1),(caps 3 B2),(caps 3 B3),(DX z n17),(XM c p n83)] rfl rfl ?_
   refine CQ ?_
   refine Cb [3,2] [(CE z),(2,i6 ((Em c p).e))] ?_
   refine FX <| Jh <| AP [.at 2,.at 2] [Qb (z+1),Qb (z+1)] (.tuple #[i6 ((Em c p).e),.agg #[i6 ((Em c p).Ag.First),i6 ((Em c p).Ag.Second)]]) ⟨rfl,rfl,Ae⟩ ?_
   intro w86 hw86
   exact⟨congrArg (fun t:Am=>Ending.returned (.tuple #[i6 t.e,.agg #[i6 t.Ag.First,i6 t.Ag.Second]])) ((Py (xs:=answers c) (k:=k) (by rw[J5];omega) hf (by rw[ha];exact fun x=>h85 (FP.2 x))).trans ha).symm,Au hw86⟩
  ·refine Ky (base:=z) (e:=96) (sz:=1) (cells:=(fun v:Value=>[v])) (a:=aR) (n:=((asks (z+2) B1 B2 B3).length)) (cap:=cR) (xs:=(asks (z+2) B1 B2 B3)) 4 (by omega) (fun b87 hg88 hb89 => ?_)
   subst hg88
   refine A8 5 1 [] [[(oi k),(oa [.via 4 (.func (.func 81) #[] #[pt (z+2),pt b])]),o0],[o0]] [Ea k,k<(asks (z+2) B1 B2 B3).length,Ec,∀ w',Ch.holds (Tv z B1 B2 B3 cR b87) w'→w'.cell? ⟨b87,0+k,none⟩=some (.func (.func 81) #[] #[pt (z+2),pt b])] [(CE z),(Vr z B1 B2 B3 cR b87),(DY z B1 B2 B3),(10,Aa k),(14,.func (.func 81) #[] #[pt (z+2),pt b])] rfl ⟨rfl,(by omega),rfl,Jm (sz:=1) (j:=k) (k:=0) (fun _=>rfl) (by omega) (congrArg some hv),Ae⟩ ?_
   refine BV 81 #[pt (z+2),pt b] (some 15) (.agg (Am.arr (FU c p))) (fun w90 hw90=>q8_calls w90 (hL.ext (hw90.ext rfl)) c (hc.ext (hw90.ext rfl) (fun _ h=>h)) (z+2) (LJ hw90 (i:=3)) b p (VM hw90 hb (i:=7)) hp) (fun n91 (hn92:n29≤n91) => ?_)
   refine EG 3 0 [] [[o0,(an 3 9)]] [Qb n91,Qb n91,Qb n91] [(CE z),(Vr z B1 B2 B3 cR b87),(DY z B1 B2 B3),(10,Aa k),(6,pt n91)] ⟨w,n91+1,[(Ak w),(CU z c),(D7 z),(CX z c),(Tv z B1 B2 B3 cR b87),(caps 3 B1),(caps 3 B2),(caps 3 B3),(DX z n17),(Xu c p n91)]⟩ rfl ⟨rfl,rfl,rfl,Ae⟩ ?_
   by_cases h93:(((FU c p).e:Int)==(0:Int)&&((((FU c p).Ag.First:Int)==(0:Int)&&(((FU c p).Ag.Second:Int)==(0:Int)&&true))&&true))=true
   ·refine A8 9 0 [0] [[(an 3 9),(oa [.via 0 (i6 0),.via 0 (i6 0),.via 0 (i6 0)]),⟨.seq true,none⟩],[(ov (i6 ((k+1:Nat):Int))),o0]] [Qb n91,Qb n91,Qb n91,Old w 0 0 (i6 0),Old w 0 1 (i6 0),Old w 0 2 (i6 0),(((FU c p).e:Int)==(0:Int)&&((((FU c p).Ag.First:Int)==(0:Int)&&(((FU c p).Ag.Second:Int)==(0:Int)&&true))&&true))=true,Wr ((k:Int)+1) (((k+1:Nat):Int))] [(CE z),(Vr z B1 B2 B3 cR b87),(DY z B1 B2 B3),(Jc k)] rfl ⟨rfl,rfl,rfl,Aw (hL.2 0 _ rfl),Aw (hL.2 1 _ rfl),Aw (hL.2 2 _ rfl),h93,Dk,Ae⟩ ?_
    refine C9 [0,1,2,3,4,5,6,7,8] [(Ak w),(CU z c),(D7 z),(CX z c),(Tv z B1 B2 B3 cR b87),(caps 3 B1),(caps 3 B2),(caps 3 B3),(DX z n17)] rfl rfl ?_
    refine Cb [3,8,9,10] [(CE z),(Vr z B1 B2 B3 cR b87),(DY z B1 B2 B3),(Jc k)] ?_
    refine CS (fun a w' hs=>⟨(asks (z+2) B1 B2 B3).length - (k+1),by omega,(n91+1),(k+1),(some ⟨b87,0,none⟩),cR,rfl,by omega,by omega,Ia hf (by rw[ha];exact FP.1 h93),hs⟩)
   refine A8 5 0 [1] [[(an 3 9),(oa [.via 0 (i6 0),.via 0 (i6 0),.via 0 (i6 0)]),⟨.seq false,none⟩]] [Qb n91,Qb n91,Qb n91,Old w 0 0 (i6 0),Old w 0 1 (i6 0),Old w 0 2 (i6 0),(((FU c p).e:Int)==(0:Int)&&((((FU c p).Ag.First:Int)==(0:Int)&&(((FU c p).Ag.Second:Int)==(0:Int)&&true))&&true))=false] [(CE z),(Vr z B1 B2 B3 cR b87),(DY z B1 B2 B3),(10,Aa k),(6,pt n91),(18,.bool true)] rfl ⟨rfl,rfl,rfl,Aw (hL.2 0 _ rfl),Aw (hL.2 1 _ rfl),Aw (hL.2 2 _ rfl),(Bool.eq_false_iff.2 h93),Ae⟩ ?_
   refine DK 5 [0,1,2,3,4,5,6,7,8,9] [(Ak w),(CU z c),(D7 z),(CX z c),(Tv z B1 B2 B3 cR b87),(caps 3 B1),(caps 3 B2),(caps 3 B3),(DX z n17),(Xu c p n91)] rfl rfl ?_
   refine CP [(0,o0),(1,(a1 9)),(2,o0),(3,(an 2 9)),(4,o0)] [3,22,2] [Qb n91,Qb n91,Qb n91] (Dy 5 1) [(CE z),(22,.agg #[i6 ((FU c p).Ag.First),i6 ((FU c p).Ag.Second)]),(2,i6 ((FU c p).e))] ⟨rfl,rfl,rfl,Ae⟩ ?_
   refine AV 5 ?_
   refine Bi (an 2 2) [3,2] [Qb (z+1),Qb (z+1)] [(CE z),(2,i6 ((FU c p).e))] ⟨w,n91+1,[(Ak w),(CU z c),(qdvx_5 z c p),(CX z c),(Tv z B1 B2 B3 cR b87),(caps 3 B1),(caps 3 B2),(caps 3 B3),(DX z n17),(Xu c p n91)]⟩ [] ⟨rfl,rfl,Ae⟩ (.inl rfl) ?_
   refine D9 6 [0,1,2,3,4,5,6,7,8,9] [(Ak w),(CU z c),(qdvx_5 z c p),(CX z c),(Tv z B1 B2 B3 cR b87),(caps 3 B1),(caps 3 B2),(caps 3 B3),(DX z n17),(Xu c p n91)] rfl rfl ?_
   refine CQ ?_
   refine Cb [3,2] [(CE z),(2,i6 ((FU c p).e))] ?_
   refine FX <| Jh <| AP [.at 2,.at 2] [Qb (z+1),Qb (z+1)] (.tuple #[i6 ((FU c p).e),.agg #[i6 ((FU c p).Ag.First),i6 ((FU c p).Ag.Second)]]) ⟨rfl,rfl,Ae⟩ ?_
   intro w94 hw94
   exact⟨congrArg (fun t:Am=>Ending.returned (.tuple #[i6 t.e,.agg #[i6 t.Ag.First,i6 t.Ag.Second]])) ((Py (xs:=answers c) (k:=k) (by rw[J5];omega) hf (by rw[ha];exact fun x=>h93 (FP.2 x))).trans ha).symm,Au hw94⟩
  have hFr:=Za6 hf (by omega)
  have hpf:∀ q,q<c.Ac.xs.length→Es c q=DF:=fun q hq=>Z9 hf hq (by omega)
  refine Ky (base:=z) (e:=96) (sz:=1) (cells:=(fun v:Value=>[v])) (a:=aR) (n:=((asks (z+2) B1 B2 B3).length)) (cap:=cR) (xs:=(asks (z+2) B1 B2 B3)) 4 (by omega) (fun b95 hg96 hb97 => ?_)
  subst hg96
  refine A8 5 1 [] [[(oi k),(oa [.via 4 (.func (.func 83) #[] #[pt (z+2)])]),o0],[o0]] [Ea k,k<(asks (z+2) B1 B2 B3).length,Ec,∀ w',Ch.holds (SQ z B1 B2 B3 cR b95) w'→w'.cell? ⟨b95,0+k,none⟩=some (.func (.func 83) #[] #[pt (z+2)])] [(CE z),(UE z B1 B2 B3 cR b95),(DY z B1 B2 B3),(10,Aa k),(14,.func (.func 83) #[] #[pt (z+2)])] rfl ⟨rfl,(by omega),rfl,Jm (sz:=1) (j:=k) (k:=0) (fun _=>rfl) (by omega) (congrArg some hv),Ae⟩ ?_
  refine BV 83 #[pt (z+2)] (some 15) (.agg (Am.arr (I8 c))) (fun w98 hw98=>q9_calls w98 (hL.ext (hw98.ext rfl)) c (hc.ext (hw98.ext rfl) (fun _ h=>h)) (z+2) (LJ hw98 (i:=3)) hFr hpf) (fun n99 (hn100:n29≤n99) => ?_)
  refine EG 3 0 [] [[o0,(an 3 9)]] [Qb n99,Qb n99,Qb n99] [(CE z),(UE z B1 B2 B3 cR b95),(DY z B1 B2 B3),(10,Aa k),(6,pt n99)] ⟨w,n99+1,[(Ak w),(CU z c),(D7 z),(CX z c),(SQ z B1 B2 B3 cR b95),(caps 3 B1),(caps 3 B2),(caps 3 B3),(DX z n17),(Xn c n99)]⟩ rfl ⟨rfl,rfl,rfl,Ae⟩ ?_
  by_cases h101:(((I8 c).e:Int)==(0:Int)&&((((I8 c).Ag.First:Int)==(0:Int)&&(((I8 c).Ag.Second:Int)==(0:Int)&&true))&&true))=true
  ·refine A8 9 0 [0] [[(an 3 9),(oa [.via 0 (i6 0),.via 0 (i6 0),.via 0 (i6 0)]),⟨.seq true,none⟩],[(ov (i6 ((k+1:Nat):Int))),o0]] [Qb n99,Qb n99,Qb n99,Old w 0 0 (i6 0),Old w 0 1 (i6 0),Old w 0 2 (i6 0),(((I8 c).e:Int)==(0:Int)&&((((I8 c).Ag.First:Int)==(0:Int)&&(((I8 c).Ag.Second:Int)==(0:Int)&&true))&&true))=true,Wr ((k:Int)+1) (((k+1:Nat):Int))] [(CE z),(UE z B1 B2 B3 cR b95),(DY z B1 B2 B3),(Jc k)] rfl ⟨rfl,rfl,rfl,Aw (hL.2 0 _ rfl),Aw (hL.2 1 _ rfl),Aw (hL.2 2 _ rfl),h101,Dk,Ae⟩ ?_
   refine C9 [0,1,2,3,4,5,6,7,8] [(Ak w),(CU z c),(D7 z),(CX z c),(SQ z B1 B2 B3 cR b95),(caps 3 B1),(caps 3 B2),(caps 3 B3),(DX z n17)] rfl rfl ?_
   refine Cb [3,8,9,10] [(CE z),(UE z B1 B2 B3 cR b95),(DY z B1 B2 B3),(Jc k)] ?_
   refine CS (fun a w' hs=>⟨(asks (z+2) B1 B2 B3).length - (k+1),by omega,(n99+1),(k+1),(some ⟨b95,0,none⟩),cR,rfl,by omega,by omega,Ia hf (by rw[ha];exact FP.1 h101),hs⟩)
  refine A8 5 0 [1] [[(an 3 9),(oa [.via 0 (i6 0),.via 0 (i6 0),.via 0 (i6 0)]),⟨.seq false,none⟩]] [Qb n99,Qb n99,Qb n99,Old w 0 0 (i6 0),Old w 0 1 (i6 0),Old w 0 2 (i6 0),(((I8 c).e:Int)==(0:Int)&&((((I8 c).Ag.First:Int)==(0:Int)&&(((I8 c).Ag.Second:Int)==(0:Int)&&true))&&true))=false] [(CE z),(UE z B1 B2 B3 cR b95),(DY z B1 B2 B3),(10,Aa k),(6,pt n99),(18,.bool true)] rfl ⟨rfl,rfl,rfl,Aw (hL.2 0 _ rfl),Aw (hL.2 1 _ rfl),Aw (hL.2 2 _ rfl),(Bool.eq_false_iff.2 h101),Ae⟩ ?_
  refine DK 5 [0,1,2,3,4,5,6,7,8,9] [(Ak w),(CU z c),(D7 z),(CX z c),(SQ z B1 B2 B3 cR b95),(caps 3 B1),(caps 3 B2),(caps 3 B3),(DX z n17),(Xn c n99)] rfl rfl ?_
  refine CP [(0,o0),(1,(a1 9)),(2,o0),(3,(an 2 9)),(4,o0)] [3,22,2] [Qb n99,Qb n99,Qb n99] (Dy 5 1) [(CE z),(22,.agg #[i6 ((I8 c).Ag.First),i6 ((I8 c).Ag.Second)]),(2,i6 ((I8 c).e))] ⟨rfl,rfl,rfl,Ae⟩ ?_
  refine AV 5 ?_
  refine Bi (an 2 2) [3,2] [Qb (z+1),Qb (z+1)] [(CE z),(2,i6 ((I8 c).e))] ⟨w,n99+1,[(Ak w),(CU z c),(qdvx_11 z c),(CX z c),(SQ z B1 B2 B3 cR b95),(caps 3 B1),(caps 3 B2),(caps 3 B3),(DX z n17),(Xn c n99)]⟩ [] ⟨rfl,rfl,Ae⟩ (.inl rfl) ?_
  refine D9 6 [0,1,2,3,4,5,6,7,8,9] [(Ak w),(CU z c),(qdvx_11 z c),(CX z c),(SQ z B1 B2 B3 cR b95),(caps 3 B1),(caps 3 B2),(caps 3 B3),(DX z n17),(Xn c n99)] rfl rfl ?_
  refine CQ ?_
  refine Cb [3,2] [(CE z),(2,i6 ((I8 c).e))] ?_
  refine FX <| Jh <| AP [.at 2,.at 2] [Qb (z+1),Qb (z+1)] (.tuple #[i6 ((I8 c).e),.agg #[i6 ((I8 c).Ag.First),i6 ((I8 c).Ag.Second)]]) ⟨rfl,rfl,Ae⟩ ?_
  intro w102 hw102
  exact⟨congrArg (fun t:Am=>Ending.returned (.tuple #[i6 t.e,.agg #[i6 t.Ag.First,i6 t.Ag.Second]])) ((Py (xs:=answers c) (k:=k) (by rw[J5];omega) hf (by rw[ha];exact fun x=>h101 (FP.2 x))).trans ha).symm,Au hw102⟩
 refine A8 15 0 [0] [[oF],[o0,o0,(an 2 2)]] [BF ((k:Int)<(((asks (z+2) B1 B2 B3).length:Nat):Int)),Qb (z+1),Qb (z+1)] [(CE z),(2,i6 0)] rfl ⟨bf,rfl,rfl,Ae⟩ ?_
 refine AP [.at 2,.at 2] [Qb (z+1),Qb (z+1)] (.tuple #[i6 0,.agg #[i6 0,i6 0]]) ⟨rfl,rfl,Ae⟩ ?_
 intro w103 hw103
 exact⟨congrArg (fun t:Am=>Ending.returned (.tuple #[i6 t.e,.agg #[i6 t.Ag.First,i6 t.Ag.Second]])) (fst_all (xs:=answers c) (fun i hi=>hf i (by rw[J5]at hi;omega))).symm,Au hw103⟩
def N7{α:Type}(s:Sl α):Sl α:=⟨none,0,s.xs⟩
def Jw(x:Ap):Ap:={ x with Ah:=N7 x.Ah,Aq:=N7 x.Aq }
def strip(c:Ai):Ai:={ c with Ar:=⟨none,0,c.Ar.xs.map N7⟩,Ac:=⟨none,0,c.Ac.xs.map Jw⟩,Aj:=N7 c.Aj }
theorem gd_mapd{α β:Type}[Inhabited α][Inhabited β]{f:α→β}(h:f default=default)(xs:List α)(k:Nat):gd (xs.map f) k=f (gd xs k):=by
 unfold gd
 rw[List.getD_eq_getElem?_getD,List.getD_eq_getElem?_getD,List.getElem?_map]
 cases xs[k]? with
 | none=>exact h.symm
 | some x=>rfl
section
variable {c:Ai}
theorem Oa(p:Nat):gd (strip c).Ac.xs p=Jw (gd c.Ac.xs p):=gd_mapd (by rfl) _ _
theorem Y1(p:Nat):gd (strip c).Ar.xs p=N7 (gd c.Ar.xs p):=gd_mapd (by rfl) _ _
theorem Nc:(strip c).Ac.xs.length=c.Ac.xs.length:=List.length_map _
theorem Za:(strip c).Ar.xs.length=c.Ar.xs.length:=List.length_map _
theorem XW(k:Nat)(b:Bool):LZ (strip c) k b=LZ c k b:=by
 unfold LZ Yh
 rw[Nc]
 show((List.take _ (c.Ac.xs.map Jw)).map _).sum=_
 rw[←List.map_take,List.map_map];rfl
theorem Wn:FQ (strip c)=FQ c:=by
 unfold FQ
 rw[Nc,show(strip c).Ac.xs.all (FN (strip c).Aj.xs.length)=c.Ac.xs.all (FN c.Aj.xs.length)from by
  show(c.Ac.xs.map Jw).all _=_
  rw[List.all_map];rfl]
 have h:LV (strip c)=LV c:=by
  funext k;unfold LV;rw[XW,XW];rfl
 rw[h];rfl
theorem ends_strip(k:Int)(b:Bool):Dc (strip c) k b=Dc c k b:=by
 unfold Dc EL
 rw[Nc]
 congr 1
 funext p
 rw[Oa];rfl
theorem Za7:∀ k,DV (strip c) k=DV c k
 | 0=>by show Ei _ _=Ei _ _;unfold Ei;rw[Nc];rfl
 | k+1=>by
  show DV (strip c) k+cLen (strip c) k=DV c k+cLen c k
  rw[Za7 k]
  unfold cLen JQ
  rw[ends_strip];rfl
theorem Zaz:∀ k,Fz (strip c) k=Fz c k
 | 0=>by
  show TP (strip c)=TP c
  unfold TP
  rw[Za7];rfl
 | k+1=>by
  show Fz (strip c) k+1+(JW (gd (strip c).Ac.xs k):Int)=Fz c k+1+(JW (gd c.Ac.xs k):Int)
  rw[Zaz k,Oa];rfl
theorem need_strip:Nw (strip c)=Nw c:=by unfold Nw;rw[Wn,Nc,Zaz];rfl
theorem err_strip:errOf (strip c)=errOf c:=by unfold errOf;rw[Wn]
theorem Qj(p k:Nat):Ep (strip c) p k=Ep c p k:=by unfold Ep;rw[Oa];rfl
theorem prt_strip(p k:Nat):Zae (strip c) p k=Zae c p k:=by unfold Zae;rw[Oa];rfl
theorem named_strip(p:Nat):AO (strip c) p=AO c p:=by
 unfold AO FY
 simp only[Oa];rfl
theorem ZaU(f:BR→Bool)(n:Nat):Nk f (strip c).Ac.xs n=Nk f c.Ac.xs n:=by
 unfold Nk
 simp only[Oa];rfl
theorem src_strip(h:Int):Ko (strip c) h=Ko c h:=by unfold Ko;rw[ZaU,Nc]
theorem dst_strip(h:Int):BG (strip c) h=BG c h:=by unfold BG;rw[ZaU,Nc]
theorem regQ_strip(p k:Nat):FZ (strip c) p k=FZ c p k:=by
 have h1:TV (strip c) p k=TV c p k:=by funext i;unfold TV;rw[Qj,Qj]
 have h2:Yd (strip c) p k=Yd c p k:=by
  funext q
  unfold Yd FY
  have h3:U6 (strip c) p k q=U6 c p k q:=by funext n;unfold U6;rw[Qj,Qj]
  rw[h3,Oa];rfl
 unfold FZ
 rw[h1,h2,Qj];rfl
theorem partQ_strip(p:Nat):Es (strip c) p=Es c p:=by
 have hA:IG (strip c) p=IG c p:=by unfold IG FY;rw[named_strip,Oa];rfl
 have hE:IM (strip c) p=IM c p:=by unfold IM FY;rw[Oa];rfl
 have hQ:KQ (strip c) p=KQ c p:=by funext k;unfold KQ;rw[prt_strip];rfl
 have hR:FZ (strip c) p=FZ c p:=by funext k;exact regQ_strip p k
 have hB:Jj (strip c) p=Jj c p:=by unfold Jj;rw[hA,hR];unfold FY;rw[Oa];rfl
 unfold Es
 rw[hB,hE,hQ];unfold FY;rw[Oa];rfl
theorem chanQ_strip(h:Nat):Em (strip c) h=Em c h:=by
 unfold Em
 rw[src_strip,dst_strip];rfl
theorem split_strip(k:Nat)(p:Int):Je (strip c) k p=Je c k p:=by
 unfold Je
 congr 1
 funext i
 unfold Ya FI
 rw[Y1];rfl
theorem coreQ_strip(k:Nat):FU (strip c) k=FU c k:=by
 have hW:G8 (strip c) k=G8 c k:=by
  funext n
  unfold G8 VH
  simp only[split_strip,Nc]
  unfold FI
  rw[Y1];rfl
 unfold FU
 rw[hW];unfold FI;rw[Y1];rfl
theorem kern_strip:Ii (strip c)=Ii c:=by
 have h:VK (strip c)=VK c:=by
  funext q
  have h2:Yf (strip c) q=Yf c q:=by funext n;unfold Yf;rw[Qj];rfl
  unfold VK FY
  rw[h2,Oa];rfl
 unfold Ii
 rw[h,err_strip,need_strip,Nc];rfl
theorem XR:Ce (strip c)=Ce c:=by
 have h1:Es (strip c)=Es c:=by funext p;exact partQ_strip p
 have h2:Em (strip c)=Em c:=by funext p;exact chanQ_strip p
 have h3:FU (strip c)=FU c:=by funext p;exact coreQ_strip p
 unfold Ce answers
 rw[h1,h2,h3,Nc,Za]
 unfold I8 Ha Hf
 rw[kern_strip,Nc,Za];rfl
end
theorem OI{c d:Ai}(h:strip c=strip d):Ce c=Ce d:=by rw[←XR,h,XR]
end Go.Proofs.YtekjfiegdpoajaaGreatDoor.Ad
namespace Go.Proofs.YtekjfiegdpoajaaGreatDoor.Eng
open Go Go.ChangeShapes Go.WideShapes Go.Deep
set_option linter.unusedSimpArgs false
set_option linter.unusedVariables false
theorem weightsAll_mem{H:Type}{P:Program}{e:TypeId}:∀ {l:List (DataW H)} {d:DataW H},d∈l→∀ n∈d.weights P e,n∈DataW.weightsAll P e l
 | a :: l,d,h,n,hn=>by
  simp only[DataW.weightsAll,List.mem_append]
  rcases List.mem_cons.1 h with rfl | h
  ·exact .inl hn
  exact .inr (weightsAll_mem h n hn)
def Rd(P:Program){α:Type}(t:TypeId)(cells:α→List Value)(ok:(Nat→Prop)→World→α→Prop):Prop :=
 ∀ (H:Type) (enc:TypeId×Value→H) (W:World) (fuel:Nat) (cs:List Value) (x:DataW H×List MemPlace),DataW.trod enc P W 0 (fun _=>true) true fuel t cs=some x→(∀ n∈x.1.weights P t,n≤reachBytes)→∃ a:α,cs=cells a∧ok Any W a
section
variable {P:Program}{t:TypeId}
theorem Jt{k:IntKind}(ht:P.underlying t=some (.int k)):Rd P t (fun x:Int=>[Value.int k x]) (fun _ _ x=>He k x):=by
 intro H enc W fuel cs x h _
 obtain⟨n,rfl,rfl,hw⟩:=DataW.trod_int ht h
 refine⟨n,rfl, ?_⟩
 simp only[Lit.wf,Bool.and_eq_true,decide_eq_true_eq]at hw
 cases k <;> simp only[He] <;> simp[IntKind.min,IntKind.max,IntKind.bits,IntKind.signed]at hw <;> first | omega | exact⟨by omega,by omega⟩ | trivial
theorem rd_bool(ht:P.underlying t=some .bool):Rd P t (fun x:Bool=>[Value.bool x]) (fun _ _ _=>True):=by
 intro H enc W fuel cs x h _
 obtain⟨b,rfl,rfl⟩:=DataW.trod_bool ht h
 exact⟨b,rfl,Ae⟩
theorem rd_string(ht:P.underlying t=some .string):Rd P t (fun x:ByteArray=>[Value.string x]) (fun _ _ x=>x.size≤140737488351232):=by
 intro H enc W fuel cs x h hw
 obtain⟨s,rfl,rfl, -⟩:=DataW.trod_string ht h
 refine⟨s,rfl, ?_⟩
 have:=hw s.data.toList.length (by simp[DataW.weights])
 simpa[reachBytes]using this
theorem FH{H:Type}{enc:TypeId×Value→H}{W:World}{α:Type}{cells:α→List Value}{ok:(Nat→Prop)→World→α→Prop}{fs:Array Field}{xs:List (DataW H×List MemPlace)}{n:Nat}{cs:List Value}(ht:P.underlying t=some (.struct fs))(hlen:xs.length=fs.size)
   (hf:∀ (i:Nat) (f:Field),fs[i]? = some f→DataW.trod enc P W 0 (fun _=>true) true n f.type ((cs.drop f.offset).take (P.cellsOf f.type))=xs[i]?) (hw:∀ n∈(DataW.agg (xs.map (·.1))).weights P t,n≤reachBytes)
   (i o c:Nat) (f:Field) (hi:fs[i]? = some f) (ho:f.offset=o) (hc:P.cellsOf f.type=c) (hr:Rd P f.type cells ok):∃ y:α,(cs.drop o).take c=cells y∧ok Any W y:=by
 subst ho;subst hc
 have hlt:i<xs.length:=by rw[hlen];exact(Array.getElem?_eq_some_iff.1 hi).1
 have h1:=hf i f hi
 rw[List.getElem?_eq_getElem hlt]at h1
 refine hr H enc W n _ _ h1 (fun q hq=>hw q ?_)
 simp only[DataW.weights,ht]
 exact DataW.weights_mem_each (j:=i) (t:=f.type) (d:=(xs[i]).1) (by rw[List.getElem?_map];simp only[Array.getElem?_toList,hi];rfl) (by simp[hlt]) q hq
theorem cs1{cs:List Value}(h:cs.length=1):∃ a,cs=[a]:=match cs,h with | [a],_=>⟨a,rfl⟩
theorem rd_arg{H:Type}{enc:TypeId×Value→H}{W:World}{base j:Nat}{α:Type}{cells:α→List Value}{ok:(Nat→Prop)→World→α→Prop}{fs:Array Field}{v:Value}{d:DataW H}{p:List MemPlace}{ts:List TypeId}{ds:List (DataW H)}
   (hr:Rd P t cells ok) (ht:P.underlying t=some (.struct fs)) (hv:Value.okWide P W .any base t v) (h:DataW.Trod enc P W 0 (fun _=>true) true t v d p) (hsz:(DataW.weightsEach P ts ds).all (· ≤ reachBytes)=true) (hj:ts[j]? = some t) (hd:ds[j]? = some d):∃ a:α,v = .agg (cells a).toArray∧ok Any W a:=by
 obtain⟨arr,rfl, -⟩:=okWide_struct ht hv
 obtain⟨fuel,h⟩:=h
 obtain⟨a,ha,hok⟩:=hr H enc W fuel _ _ h (fun n hn=>by have:=List.all_eq_true.1 hsz _ (DataW.weights_mem_each hj hd n hn);simpa using this)
 refine⟨a, ?_,hok⟩
 have ha':arr.toList=cells a:=ha
 rw[←ha']
theorem rd_arg1{H:Type}{enc:TypeId×Value→H}{W:World}{j:Nat}{α:Type}{V:α→Value}{ok:(Nat→Prop)→World→α→Prop}{v:Value}{d:DataW H}{p:List MemPlace}{ts:List TypeId}{ds:List (DataW H)}
   (hr:Rd P t (fun x=>[V x]) ok) (hna:v.cells = #[v]) (h:DataW.Trod enc P W 0 (fun _=>true) true t v d p) (hsz:(DataW.weightsEach P ts ds).all (· ≤ reachBytes)=true) (hj:ts[j]? = some t) (hd:ds[j]? = some d):∃ a:α,v=V a∧ok Any W a:=by
 obtain⟨fuel,h⟩:=h
 rw[hna]at h
 obtain⟨a,ha,hok⟩:=hr H enc W fuel _ _ h (fun n hn=>by have:=List.all_eq_true.1 hsz _ (DataW.weights_mem_each hj hd n hn);simpa using this)
 simp only[List.cons.injEq,and_true]at ha
 exact⟨a,ha,hok⟩
end
open Go Go.Proofs.YtekjfiegdpoajaaGreatDoor.Mem Go.ChangeShapes Go.WideShapes Go.Deep
section
variable {P:Program}{N:Nat}{env:Env}{ds:List Deferred}{A:AW}{ops:Array Oper}{l:List Oper}{s:List Kt}{Q:Exit→Act→World→Prop}
theorem Vy{α:Type}(base i k:Nat)(xs ys:List α)(ya:Option Addr)(cells:α→List Value)(e:TypeId)(sz by':Nat)(v:Value)(m cp:Nat)(c0:Ch)(d:Option Nat)(h63:xs.length+ys.length≤281474976710656)(hbytes:(xs.length+ys.length)*by'≤140737488355328)(hbase:base≤A.n)(hd:∀ w',c0.holds w'→FV cells sz Any w' ⟨ya,cp,ys⟩)
   (K:∀ a' cap' n',A.n≤n'→Lg P N (GG env d (.slice a' (xs++ys).length cap')) ds { A with n:=n',σ:=A.σ.set i (BB base e sz cells (.slice a' (xs++ys).length cap') (xs++ys)) } ops (l.drop 1) s Q)
   (hm:ys.length=m:=by rfl) (h:(match l with | o :: _=>(appS P N ops env o).map (fun x=>(x,o.dst)) | []=>none)=some ((e,sz,by',v,ya,m,cp),d):=by as_aux_lemma=>kernel_rfl) (hi:A.σ[i]? = some (BB base e sz cells v xs):=by rfl) (hk:A.σ[k]? = some c0:=by rfl) (hsz:∀ x,(cells x).length=sz:=by intro _;rfl) (h1:∀ x,(cells x).all Value.oneCell'=true:=by intro _;rfl):Lg P N env ds A ops l s Q:=by
 intro a w hst
 cases l with
 | nil=>cases h
 | cons o l =>
   simp only[Option.map_eq_some_iff]at h
   obtain⟨y,hy,h⟩:=h
   simp only[Prod.mk.injEq]at h
   obtain⟨rfl,rfl⟩:=h
   obtain⟨hw,hdst,a',cap',w',hr,hsz',hs'⟩:=appS_run (xs:=xs) (ys:=ys) hy hst hi hsz (fun x u hu=>List.all_eq_true.1 (h1 x) u hu) (hd w (hst.mem.at hk)) hm (by unfold maxLen;omega) (by rw[←hm];exact hbytes) hbase
   refine JS hw (.inl hr) ?_
   exact K a' cap' _ hsz' _ _ (hst.put hs' _ hdst _)
end
section
variable {P:Program}{t:TypeId}
theorem PL{α:Type}[Inhabited α]{cells:α→List Value}{ok:(Nat→Prop)→World→α→Prop}{e:TypeId}{sz:Nat}(ht:P.underlying t=some (.slice e))(hc:P.cellsOf e=sz)(hsz:∀ x,(cells x).length=sz)(hs0:0<sz)(hpos:Nat.blt 0 (P.bytesOf e)=true)(h:Rd P e cells ok) :
   Rd P t (fun s:Sl α=>[s.val]) (fun F W s=>GU cells sz ok F W s∧s.xs.length*P.bytesOf e≤reachBytes):=by
 intro H enc W fuel cs x hx hw
 rcases open_slice ht hx with⟨rfl,rfl⟩ | ⟨a,len,cap,m,n,D,Pl,rfl,hb,hl,hm,hmm,rfl,hi⟩
 · exact⟨⟨none,0,[]⟩,rfl,⟨⟨Nat.zero_le _,Nat.le_refl _,fun h=>absurd rfl h⟩,fun i hi=>absurd hi (Nat.not_lt_zero i)⟩,by simp⟩
 · simp only[if_true]at hmm
   subst hmm
   rw[hc]at hi
   have hww:∀ q∈DataW.weightsAll P e ((List.range len).map D),q≤reachBytes:=fun q hq=>hw q (by simp only[DataW.weights,ht,List.mem_cons,List.mem_append];exact .inr (.inl hq))
   have hY:∀ i,i<len→∃ y:α,(W.cells? 0 (a.add (i*sz)) sz=some (cells y))∧ok Any W y:=by
     intro i hi'
     obtain⟨cs',h1,h2⟩:=hi i (by omega)
     obtain⟨y,rfl,hy⟩:=h H enc W n cs' _ h2 (fun q hq=>hww q (weightsAll_mem (d:=D i) (List.mem_map_of_mem (List.mem_range.2 hi')) q hq))
     exact⟨y,h1,hy⟩
   obtain⟨Y,hY⟩:=choose_lt hY
   have hbig:(len+(m - len))*P.bytesOf e≤reachBytes:=hw _ (by simp[DataW.weights,ht])
   have hlen:len+(m - len)≤140737488351232:=Nat.le_trans (Nat.le_mul_of_pos_right _ (by simpa using hpos)) hbig
   have hg:∀ i,i<len→gd ((List.range len).map Y) i=Y i:=fun i hi'=>by rw[E5 (by simpa using hi')];simp
   refine⟨⟨some a,m,(List.range len).map Y⟩,by simp[Sl.val],⟨⟨by simp;omega,by simpa using hl,fun hne => ?_⟩,fun i hi' => ?_⟩,Nat.le_trans (Nat.mul_le_mul_right _ (by simp)) hbig⟩
   · have h0:0<len:=by
       rcases Nat.eq_zero_or_pos len with h | h
       · subst h;exact absurd rfl hne
       · exact h
     have hsp:a.spot=none:=by
       obtain⟨-, -,h3⟩:=World.cells?_some (hY 0 h0).1
       have h4:=h3 0 hs0
       rw[List.getElem?_eq_getElem (by rw[hsz];exact hs0)]at h4
       have:=World.cell?_spot h4
       simpa[Addr.add]using this
     obtain⟨b,off,sp⟩:=a
     simp only at hsp;subst hsp
     refine⟨b,off,rfl,Ae,fun i hi' k v hv => ?_⟩
     have hi2:i<len:=by simpa using hi'
     obtain⟨-, -,h3⟩:=World.cells?_some (hY i hi2).1
     have hv':(cells (Y i))[k]? = some v:=by simpa using hv
     have hk:k<sz:=by rw[←hsz (Y i)];exact(List.getElem?_eq_some_iff.1 hv').1
     have:=h3 k hk
     rw[hv']at this
     rw[Jk]
     have e1:(⟨b,off,none⟩:Addr).add (i*sz)=⟨b,off+i*sz,none⟩:=MF rfl _
     have e2:(⟨b,off+i*sz,none⟩:Addr).add k=⟨b,off+i*sz+k,none⟩:=MF rfl _
     rw[e1,e2]at this
     exact this
   · have hi2:i<len:=by simpa using hi'
     rw[hg i hi2];exact(hY i hi2).2
end
end Go.Proofs.YtekjfiegdpoajaaGreatDoor.Eng
