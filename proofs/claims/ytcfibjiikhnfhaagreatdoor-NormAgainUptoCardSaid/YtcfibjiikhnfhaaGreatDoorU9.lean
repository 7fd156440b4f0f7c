/-
 slices:symMerge of attributes. Helper lemmas;no statement of the seat is proved here.
-/
import Derived.Test.YtcfibjiikhnfhaaGreatDoorU8
import Derived.Deep.DeepCutAuto
import Derived.Test.YtcfibjiikhnfhaaGreatDoorU4
import Derived.Test.YtcfibjiikhnfhaaGreatDoorZhelf
namespace Go.Proofs.YtcfibjiikhnfhaaGreatDoor
open Go.RowKit Go.Sort Go.Lib
set_option maxHeartbeats 32000000
set_option maxRecDepth 100000
set_option linter.unusedVariables false
set_option linter.unusedSimpArgs false
theorem merge_any {d0:Array Attr} {w0:World} {blk off cap:Nat} (R:RowK encA 2 w0 blk off d0) (hC:CmpLays Tryz.prog 87 #[] encA 2 cfA blk off d0.size w0):∀(N:Nat) (d:Array Attr) (w:World) (hs:d0.size=d.size) (S:SWK encA 2 w0 blk off d w) (hsz:d.size≤16777216) (a m b:Nat) (hN:b - a≤N) (h1:a< m) (h2:m< b) (h3:b≤d.size) (k1:SortedIn (ltOf cfA) a m d) (k2:SortedIn (ltOf cfA) m b d),
  Calls Tryz.prog 173 #[.slice (some ⟨blk,off,none⟩) d.size cap,.int .i64 a,.int .i64 m,.int .i64 b,.func (.func 87) #[] #[]] w fun e w'=>e= .returned (.tuple #[])∧∃d',PermIn a b d d'∧SortedIn (ltOf cfA) a b d'∧SWK encA 2 w0 blk off d' w':=by
 intro N
 induction N with
 | zero=>intro d w hs S hsz a m b hN h1 h2;omega
 | succ N ih=>
 intro d w hs S hsz a m b hN h1 h2 h3 k1 k2
 by_cases hm1:m=a+1
 ·
  exact merge1_any trivial d0 d w0 w blk off cap R hs S hsz hC a m b hm1 h2 h3 k2
 by_cases hb1:b=m+1
 ·
  exact merge2_any d0 d w0 w blk off cap R hs S hsz hC a m b hm1 h1 hb1 h3 k1
 have mixed:Tryz.prog.follows Departure.mixedOrders=true:=by kernel_rfl
 have eg:∀args w,(callFunc 87 args).run Tryz.prog w= .ok (.enter 87 args) w:=enters_of Tryz.func87 (by kernel_rfl) rfl
 have HC:Aside _:=hC
 have IH:Aside _:=ih
 have S0:Aside _:=S
 have K1:=Lh k1
 have K2:=Lh k2
 have q1:((m:Int) - (a:Int)==1)=false:=by rw[beq_eq_false_iff_ne];omega
 have q2:((b:Int) - (m:Int)==1)=false:=by rw[beq_eq_false_iff_ne];omega
 obtain⟨mid,hmid⟩:∃mid,(a+b) / 2=mid:=⟨_,rfl⟩
 have zmid:((a:Int)+(b:Int)) / 2=(mid:Int):=by omega
 obtain⟨lo,hlo⟩:∃lo,(if mid< m then mid+m - b else a)=lo:=⟨_,rfl⟩
 obtain⟨hi,hhi⟩:∃hi,(if mid< m then mid else m)=hi:=⟨_,rfl⟩
 have qb:a≤lo∧lo≤hi∧hi≤m∧hi≤mid∧mid+m - lo≤b∧lo< m:=by split at hlo<;> split at hhi<;> omega
 obtain⟨pv,hpv⟩:∃pv,mid+m - 1=pv:=⟨_,rfl⟩
 have zpv:(mid:Int)+(m:Int) - 1=(pv:Int):=by omega
 have HPV:=Lh hpv
 have HLO:=Lh (And.intro hlo hhi)
 have HM:=Lh hmid
 clear S hC k1 k2 hlo hhi hm1 hb1 ih hmid hpv
 go_enter Tryz.func173,Tryz.ntmps173
 go_upto_if 140 with fail
 go_cut [20,21] (fun s r wx=>s= .int .i64 lo∧r= .int .i64 hi∧wx=w)
 case first=>as_aux_lemma=>
  by_cases hc:mid< m
  ·
   have hcI:(mid:Int)< (m:Int):=by omega
   have e1:(mid:Int)+(m:Int) - (b:Int)=(lo:Int):=by have:=HLO.out.1;rw[if_pos hc]at this;omega
   have e2:mid=hi:=by have:=HLO.out.2;rwa [if_pos hc]at this
   go_wp2_with fail
   go_meet
   case rel=>exact⟨by go_num,by rw[e2],rfl⟩
  ·
   have hcI:¬(mid:Int)< (m:Int):=by omega
   have e1:a=lo:=by have:=HLO.out.1;rwa [if_neg hc]at this
   have e2:m=hi:=by have:=HLO.out.2;rwa [if_neg hc]at this
   have E:=Lh (And.intro e1 e2)
   clear e1 e2
   go_wp2_with fail
   go_meet
   case rel=>exact⟨by rw[E.out.1],by rw[E.out.2],rfl⟩
 case rest=>
 obtain⟨rfl,rfl,rfl⟩:=hcut
 go_wp2_with fail
 go_loopg [20,21] (hi) (fun gg vi vj wr=>∃i j:Nat,vi= .int .i64 i∧vj= .int .i64 j∧lo≤i∧i≤j∧j≤hi∧j - i≤gg∧Aside (SWK encA 2 w0 blk off d wr)∧Aside ((i=lo∨ltOf cfA d[mid+m - 1 - (i - 1)]! d[i - 1]! =false)∧(j=hi∨ltOf cfA d[mid+m - 1 - j]! d[j]! =true)))
 case atStart=>exact⟨lo,hi,by go_num,by go_num,Nat.le_refl _,by omega,Nat.le_refl _,by omega,S0,Lh ⟨.inl rfl,.inl rfl⟩⟩
 case round=>
  clear S0
  obtain⟨i,j,rfl,rfl,hi,hij,hj,hg,S1,HI⟩:=hrel
  by_cases hlt:i< j
  ·
   have hltI:(i:Int)< (j:Int):=by omega
   obtain⟨H,hH⟩:∃H,(i+j) / 2=H:=⟨_,rfl⟩
   have hHz:((i:Int)+(j:Int)) / 2=(H:Int):=by omega
   have hHi:i≤H∧H< j:=by omega
   cases hlt1:ltOf cfA d[mid+m - 1 - H]! d[H]! with
   | false=>
    obtain⟨P,hP⟩:∃P,mid+m - 1 - H=P:=⟨_,rfl⟩
    have HL1:=Lh hlt1
    rw[hP]at hlt1
    have hPb:P< b∧P+H≤pv∧pv≤P+H:=by have:=HPV.out;omega
    have zP:(pv:Int) - (H:Int)=(P:Int):=by omega
    have rP:IntKind.i64.wrap (P:Int)=(P:Int):=by rw[IntKind.wrap_i64];omega
    clear hP
    have e1i:((P:Int)).toNat=P:=by omega
    have p1i:(0:Int)≤(P:Int):=by omega
    have b1i:(P:Int)< (d.size:Int):=by omega
    have e1j:((H:Int)).toNat=H:=by omega
    have p1j:(0:Int)≤(H:Int):=by omega
    have b1j:(H:Int)< (d.size:Int):=by omega
    obtain⟨x1,hx1⟩:∃x,x=d[P]! :=⟨_,rfl⟩
    obtain⟨y1,hy1⟩:∃x,x=d[H]! :=⟨_,rfl⟩
    have l1a:=fun n os=>((S1.out.grown n os).c R (by omega) (P) (by omega)).1
    have l1b:=fun n os=>((S1.out.grown n os).c R (by omega) (P) (by omega)).2.1
    have l1c:=fun n os=>((S1.out.grown n os).c R (by omega) (H) (by omega)).1
    have l1d:=fun n os=>((S1.out.grown n os).c R (by omega) (H) (by omega)).2.1
    rw[←hx1]at l1a l1b
    rw[←hy1]at l1c l1d
    have hc1:∀n os,Calls Tryz.prog 87 #[.agg #[.string (bs x1.n),.string (bs x1.v)],.agg #[.string (bs y1.n),.string (bs y1.v)]] (grow (wr.drewN n) os) fun e w'=>e= .returned (.int .i64 (cfA x1 y1))∧∃q os',w'=grow ((grow (wr.drewN n) os).drewN q) os':=fun n os=>S1.out.cmp HC.out (by omega) x1 y1 n os
    have hv1:¬cfA x1 y1< 0:=by rw[hx1,hy1];exact of_decide_eq_false hlt1
    have hd1:decide (cfA x1 y1< 0)=false:=by simp[hv1]
    generalize cfA x1 y1=cv1 at hc1 hv1 hd1
    clear hx1 hy1
    go_wp2_with fail
    go_quiet_grown (first | (go_at_fn 87;refine Calls.grown_of (hc1 _ _)))
    have S1t:Aside (SWK encA 2 w0 blk off d (grow (wr.drewN nq) osq)):=S1.out.grown nq osq
    clear l1a l1b l1c l1d hc1 S1
    generalize grow (wr.drewN nq) osq=w1 at S1t⊢
    clear nq osq
    go_wp2_with fail
    go_roundg (j - (H+1))
    case measure=>omega
    case rel=>exact⟨H+1,j,by go_num,rfl,by omega,by omega,hj,Nat.le_refl _,S1t,Lh ⟨.inr (by rw[Nat.add_sub_cancel];exact HL1.out),HI.out.2⟩⟩
   | true=>
    obtain⟨P,hP⟩:∃P,mid+m - 1 - H=P:=⟨_,rfl⟩
    have HL1:=Lh hlt1
    rw[hP]at hlt1
    have hPb:P< b∧P+H≤pv∧pv≤P+H:=by have:=HPV.out;omega
    have zP:(pv:Int) - (H:Int)=(P:Int):=by omega
    have rP:IntKind.i64.wrap (P:Int)=(P:Int):=by rw[IntKind.wrap_i64];omega
    clear hP
    have e1i:((P:Int)).toNat=P:=by omega
    have p1i:(0:Int)≤(P:Int):=by omega
    have b1i:(P:Int)< (d.size:Int):=by omega
    have e1j:((H:Int)).toNat=H:=by omega
    have p1j:(0:Int)≤(H:Int):=by omega
    have b1j:(H:Int)< (d.size:Int):=by omega
    obtain⟨x1,hx1⟩:∃x,x=d[P]! :=⟨_,rfl⟩
    obtain⟨y1,hy1⟩:∃x,x=d[H]! :=⟨_,rfl⟩
    have l1a:=fun n os=>((S1.out.grown n os).c R (by omega) (P) (by omega)).1
    have l1b:=fun n os=>((S1.out.grown n os).c R (by omega) (P) (by omega)).2.1
    have l1c:=fun n os=>((S1.out.grown n os).c R (by omega) (H) (by omega)).1
    have l1d:=fun n os=>((S1.out.grown n os).c R (by omega) (H) (by omega)).2.1
    rw[←hx1]at l1a l1b
    rw[←hy1]at l1c l1d
    have hc1:∀n os,Calls Tryz.prog 87 #[.agg #[.string (bs x1.n),.string (bs x1.v)],.agg #[.string (bs y1.n),.string (bs y1.v)]] (grow (wr.drewN n) os) fun e w'=>e= .returned (.int .i64 (cfA x1 y1))∧∃q os',w'=grow ((grow (wr.drewN n) os).drewN q) os':=fun n os=>S1.out.cmp HC.out (by omega) x1 y1 n os
    have hv1:cfA x1 y1< 0:=by rw[hx1,hy1];exact of_decide_eq_true hlt1
    have hd1:decide (cfA x1 y1< 0)=true:=by simp[hv1]
    generalize cfA x1 y1=cv1 at hc1 hv1 hd1
    clear hx1 hy1
    go_wp2_with fail
    go_quiet_grown (first | (go_at_fn 87;refine Calls.grown_of (hc1 _ _)))
    have S1t:Aside (SWK encA 2 w0 blk off d (grow (wr.drewN nq) osq)):=S1.out.grown nq osq
    clear l1a l1b l1c l1d hc1 S1
    generalize grow (wr.drewN nq) osq=w1 at S1t⊢
    clear nq osq
    go_wp2_with fail
    go_roundg (H - i)
    case measure=>omega
    case rel=>exact⟨i,H,rfl,by go_num,hi,by omega,by omega,Nat.le_refl _,S1t,Lh ⟨HI.out.1,.inr HL1.out⟩⟩
  ·
   as_aux_lemma=>
   have hltI:¬(i:Int)< (j:Int):=by omega
   obtain rfl:i=j:=by omega
   obtain⟨en,hen⟩:∃en,mid+m - i=en:=⟨_,rfl⟩
   have zen:(mid:Int)+(m:Int) - (i:Int)=(en:Int):=by omega
   have qe:i≤m∧m≤en∧en≤b∧a≤i:=by omega
   have HS:Hid (∀d',Rot d i m en d'→a≤i∧i≤mid∧mid≤en∧en≤b∧PermIn a b d d'∧SortedIn (ltOf cfA) a i d'∧SortedIn (ltOf cfA) i mid d'∧SortedIn (ltOf cfA) mid en d'∧SortedIn (ltOf cfA) en b d'∧∀x y,a≤x→x< mid→mid≤y→y< b→ltOf cfA d'[y]! d'[x]! =false):=Lh fun d' hR=>by
    have:=sym_end swoA K1.out K2.out HM.out.symm h1 h2 HLO.out.1.symm HLO.out.2.symm hi hj HI.out.1 HI.out.2 (show Rot d i m (mid+m - i) d' by rw[hen];exact hR) h3
    rwa [hen]at this
   clear HI hen
   go_upto_region 39 with fail
   go_cut [185] (fun s wx=>s= .bool (decide (i< m∧m< en))∧wx=wr)
   case first=>as_aux_lemma=>
    by_cases c1:i< m
    ·
     have c1I:(i:Int)< (m:Int):=by omega
     by_cases c2:m< en
     ·
      have c2I:(m:Int)< (en:Int):=by omega
      go_wp2_with fail
      go_meet
      case rel=>exact⟨by simp[c1,c2],rfl⟩
     ·
      have c2I:¬(m:Int)< (en:Int):=by omega
      go_wp2_with fail
      go_meet
      case rel=>exact⟨by simp[c1,c2],rfl⟩
    ·
     have c1I:¬(i:Int)< (m:Int):=by omega
     go_wp2_with fail
     go_meet
     case rel=>exact⟨by simp[c1],rfl⟩
   case rest=>
   obtain⟨rfl,rfl⟩:=hcut
   go_upto_if 185 with fail
   go_cut [] (fun wx=>∃d':Array Attr,d'.size=d.size∧Hid (Rot d i m en d')∧Aside (SWK encA 2 w0 blk off d' wx))
   case first=>as_aux_lemma=>
    by_cases c:i< m∧m< en
    ·
     have q:=decide_eq_true c
     have HCR:=Lh (rotate_any d0 d w0 wc blk off cap R hs S1.out hsz (.func (.func 87) #[] #[]) i m en c.1 c.2 (by omega))
     go_wp2_with fail
     refine HCR.out.mono ?_
     rintro e w2 ⟨rfl,d',hR,S2⟩
     go_wp2_with fail
     go_meet
     case rel=>exact⟨d',hR.1.1,Lh hR,S2⟩
    ·
     have q:=decide_eq_false c
     go_wp2_with fail
     go_meet
     case rel=>exact⟨d,rfl,Lh (rot_triv (by omega) (by omega) (by omega)),S1⟩
   case rest=>
   obtain⟨d1,z1,HR1,S2⟩:=hcut
   obtain⟨g1,g2,g3,g4,g5,g6,g7,g8,g9,g10⟩:=HS.out d1 HR1.out
   have HG:=Lh (And.intro g5 (And.intro g6 (And.intro g7 (And.intro g8 (And.intro g9 g10)))))
   clear g5 g6 g7 g8 g9 g10 S1 HS HR1
   go_upto_region 41 with fail
   go_cut [199] (fun s wx=>s= .bool (decide (a< i∧i< mid))∧wx=wc)
   case first=>as_aux_lemma=>
    by_cases c1:a< i
    ·
     have c1I:(a:Int)< (i:Int):=by omega
     by_cases c2:i< mid
     ·
      have c2I:(i:Int)< (mid:Int):=by omega
      go_wp2_with fail
      go_meet
      case rel=>exact⟨by simp[c1,c2],rfl⟩
     ·
      have c2I:¬(i:Int)< (mid:Int):=by omega
      go_wp2_with fail
      go_meet
      case rel=>exact⟨by simp[c1,c2],rfl⟩
    ·
     have c1I:¬(a:Int)< (i:Int):=by omega
     go_wp2_with fail
     go_meet
     case rel=>exact⟨by simp[c1],rfl⟩
   case rest=>
   obtain⟨rfl,rfl⟩:=hcut
   go_upto_if 199 with fail
   go_cut [] (fun wx=>∃d2:Array Attr,d2.size=d.size∧Hid (if a< i∧i< mid then PermIn a mid d1 d2∧SortedIn (ltOf cfA) a mid d2 else d2=d1)∧Aside (SWK encA 2 w0 blk off d2 wx))
   case first=>as_aux_lemma=>
    by_cases c:a< i∧i< mid
    ·
     have q:=decide_eq_true c
     have HCM:=Lh (IH.out d1 _ (by omega) S2.out (by omega) a i mid (by omega) c.1 c.2 (by omega) HG.out.2.1 HG.out.2.2.1)
     rw[z1]at HCM
     go_wp2_with fail
     refine HCM.out.mono ?_
     rintro e w3 ⟨rfl,d2,p1,p2,S3⟩
     go_wp2_with fail
     go_meet
     case rel=>exact⟨d2,p1.1.trans z1,Lh (by rw[if_pos c];exact⟨p1,p2⟩),S3⟩
    ·
     have q:=decide_eq_false c
     go_wp2_with fail
     go_meet
     case rel=>exact⟨d1,z1,Lh (by rw[if_neg c]),S2⟩
   case rest=>
   obtain⟨d2,z2,HP2,S3⟩:=hcut
   clear S2
   have HFIN:Hid (∀d3,(if mid< en∧en< b then PermIn mid b d2 d3∧SortedIn (ltOf cfA) mid b d3 else d3=d2)→PermIn a b d d3∧SortedIn (ltOf cfA) a b d3):=Lh fun d3 h=>sym_done (m:=m) g1 g2 g3 g4 h3 HG.out.1 HG.out.2.1 HG.out.2.2.1 HG.out.2.2.2.1 HG.out.2.2.2.2.1 HG.out.2.2.2.2.2 HP2.out h
   have HSR:Hid (SortedIn (ltOf cfA) mid en d2∧SortedIn (ltOf cfA) en b d2):=Lh (by
    have o:∀x,mid≤x→d2[x]! =d1[x]! :=by
     have:=HP2.out
     split at this
     ·
      exact fun x hx=>this.1.2.1 x (by omega)
     ·
      rw[this];exact fun _ _=>rfl
    exact⟨srt_same HG.out.2.2.2.1 fun x hx _=>o x hx,srt_same HG.out.2.2.2.2.1 fun x hx _=>o x (by omega)⟩)
   clear HP2 HG
   go_upto_region 43 with fail
   go_cut [213] (fun s wx=>s= .bool (decide (mid< en∧en< b))∧wx=wc)
   case first=>as_aux_lemma=>
    by_cases c1:mid< en
    ·
     have c1I:(mid:Int)< (en:Int):=by omega
     by_cases c2:en< b
     ·
      have c2I:(en:Int)< (b:Int):=by omega
      go_wp2_with fail
      go_meet
      case rel=>exact⟨by simp[c1,c2],rfl⟩
     ·
      have c2I:¬(en:Int)< (b:Int):=by omega
      go_wp2_with fail
      go_meet
      case rel=>exact⟨by simp[c1,c2],rfl⟩
    ·
     have c1I:¬(mid:Int)< (en:Int):=by omega
     go_wp2_with fail
     go_meet
     case rel=>exact⟨by simp[c1],rfl⟩
   case rest=>
   obtain⟨rfl,rfl⟩:=hcut
   go_upto_if 213 with fail
   by_cases c:mid< en∧en< b
   ·
    have q:=decide_eq_true c
    have HCM:=Lh (IH.out d2 _ (by omega) S3.out (by omega) mid en b (by omega) c.1 c.2 (by omega) HSR.out.1 HSR.out.2)
    rw[z2]at HCM
    go_wp2_with fail
    refine HCM.out.mono ?_
    rintro e w4 ⟨rfl,d3,p1,p2,S4⟩
    go_wp2_with fail
    refine bodyPost_end (results_none rfl _ _ _) rfl ?_
    exact⟨rfl,d3,(HFIN.out d3 (by rw[if_pos c];exact⟨p1,p2⟩)).1,(HFIN.out d3 (by rw[if_pos c];exact⟨p1,p2⟩)).2,S4⟩
   ·
    have q:=decide_eq_false c
    go_wp2_with fail
    refine bodyPost_end (results_none rfl _ _ _) rfl ?_
    exact⟨rfl,d2,(HFIN.out d2 (by rw[if_neg c])).1,(HFIN.out d2 (by rw[if_neg c])).2,S3.out⟩
def Tryz.insA_ren:Go.Shelf.Ren:=⟨fun | 20=>172 | n=>n,fun | 22=>23 | 24=>114 | 25=>149 | 0=>0 | 3=>3 | 4=>4 | n=>n,fun n=>n⟩
theorem Tryz.insA:Go.Proofs.SlLaysF0.n20 Tryz.prog Tryz.insA_ren:={
 mixed:=by kernel_rfl
 f20:=⟨Tryz.f172.name,by decide,Tryz.func172.trans (congrArg some (by kernel_rfl))⟩
 t0:=Tryz.underlying0
 a0:=Tryz.isAgg0
 z0:=Tryz.sizeOf0
 v0:=Tryz.zeroValue0
 t3:=Tryz.underlying3
 a3:=Tryz.isAgg3
 z3:=Tryz.sizeOf3
 v3:=Tryz.zeroValue3
 t4:=Tryz.underlying4
 a4:=Tryz.isAgg4
 z4:=Tryz.sizeOf4
 v4:=Tryz.zeroValue4
 t22:=Tryz.underlying23
 a22:=Tryz.isAgg23
 z22:=Tryz.sizeOf23
 v22:=Tryz.zeroValue23
 t25:=Tryz.underlying149
 a25:=Tryz.isAgg149
 z25:=Tryz.sizeOf149
 v25:=Tryz.zeroValue149}
section
variable {lt:Attr→Attr→Bool} {d d':Array Attr}
def Bl1 (lt:Attr→Attr→Bool) (t k:Nat) (d:Array Attr):Prop:=∀j,j< k→SortedIn lt (j*t) (j*t+t) d
def Bl2 (lt:Attr→Attr→Bool) (t n:Nat) (d:Array Attr):Prop:=∀j,SortedIn lt (j*t) (min (j*t+t) n) d
def Bl3 (lt:Attr→Attr→Bool) (s k n:Nat) (d:Array Attr):Prop:=∀j,2*k≤j→SortedIn lt (j*s) (min (j*s+s) n) d
theorem mul_step {j k:Nat} (t:Nat) (h:j< k):j*t+t≤k*t:=by have:=Nat.mul_le_mul_right t (show j+1≤k from h);rwa [Nat.add_mul,Nat.one_mul]at this
theorem bl_keep {a b x y:Nat} (h:SortedIn lt x y d) (hp:PermIn a b d d') (k:y≤a∨b≤x):SortedIn lt x y d':=srt_same h fun z h1 h2=>hp.2.1 z (by omega)
theorem bl_one {t k:Nat} (h:Bl1 lt t k d) (hp:PermIn (k*t) (k*t+t) d d') (hs:SortedIn lt (k*t) (k*t+t) d'):Bl1 lt t (k+1) d':=fun j hj=>by
 by_cases e:j=k
 ·
  rw[e];exact hs
 ·
  exact bl_keep (h j (by omega)) hp (.inl (mul_step t (by omega)))
theorem bl_two {t k n:Nat} (h:Bl1 lt t k d) (hn:n< k*t+t) (hp:PermIn (k*t) n d d') (hs:SortedIn lt (k*t) n d'):Bl2 lt t n d':=fun j=>by
 by_cases e:j< k
 ·
  exact srt_sub (bl_keep (h j e) hp (.inl (mul_step t e))) (Nat.le_refl _) (by omega)
 ·
  have:k*t≤j*t:=Nat.mul_le_mul_right t (by omega)
  exact srt_sub hs this (by omega)
theorem two_mul' (k s:Nat):(2*k)*s=k*(2*s)∧(2*k+1)*s=k*(2*s)+s:=by
 have e:(2*k)*s=k*(2*s):=by rw[Nat.mul_comm 2 k,Nat.mul_assoc]
 exact⟨e,by rw[Nat.add_mul,e,Nat.one_mul]⟩
theorem bl_pair {s k n:Nat} (h:Bl3 lt s k n d):SortedIn lt (k*(2*s)) (min (k*(2*s)+s) n) d∧SortedIn lt (k*(2*s)+s) (min (k*(2*s)+s+s) n) d:=by
 have h1:=h (2*k) (Nat.le_refl _)
 have h2:=h (2*k+1) (by omega)
 rw[(two_mul' k s).1]at h1
 rw[(two_mul' k s).2]at h2
 exact⟨h1,h2⟩
theorem bl_three {s k n:Nat} (h:Bl3 lt s k n d) (hp:PermIn (k*(2*s)) (k*(2*s)+2*s) d d'):Bl3 lt s (k+1) n d':=fun j hj=>by
 refine bl_keep (h j (by omega)) hp (.inr ?_)
 have h1:(2*(k+1))*s≤j*s:=Nat.mul_le_mul_right s hj
 rw[(two_mul' (k+1) s).1,Nat.add_mul,Nat.one_mul]at h1
 exact h1
theorem bl_start {s n:Nat} (h:Bl2 lt s n d):Bl1 lt (2*s) 0 d∧Bl3 lt s 0 n d:=⟨fun j hj=>absurd hj (Nat.not_lt_zero j),fun j _=>h j⟩
theorem bl_end {s n:Nat} (h:Bl2 lt s n d) (hn:n≤s):SortedIn lt 0 n d:=by
 have:=h 0
 rw[Nat.zero_mul,Nat.zero_add,Nat.min_eq_right hn]at this
 exact this
end
theorem cmp_on {d0 d:Array Attr} {w0 w:World} {blk off:Nat} (R:RowK encA 2 w0 blk off d0) (hC:CmpLays Tryz.prog 87 #[] encA 2 cfA blk off d0.size w0) (hs:d0.size=d.size) (S:SWK encA 2 w0 blk off d w):CmpLays Tryz.prog 87 #[] encA 2 cfA blk off d.size w:=fun m os dk hk x y=>by
 obtain⟨n,os',e⟩:=S.on R.hblk m dk os hk
 rw[e]
 exact hC n os' dk (by omega) x y
theorem ins_any (d0 d:Array Attr) (w0 w:World) (blk off cap:Nat) (R:RowK encA 2 w0 blk off d0) (hs:d0.size=d.size) (S:SWK encA 2 w0 blk off d w) (hsz:d.size≤16777216) (hC:CmpLays Tryz.prog 87 #[] encA 2 cfA blk off d0.size w0) (a b:Nat) (hab:a≤b) (hb:b≤d.size):
  Calls Tryz.prog 172 #[.slice (some ⟨blk,off,none⟩) d.size cap,.int .i64 a,.int .i64 b,.func (.func 87) #[] #[]] w fun e w'=>e= .returned (.tuple #[])∧∃d',PermIn a b d d'∧SortedIn (ltOf cfA) a b d'∧SWK encA 2 w0 blk off d' w':=by
 have h:=Go.Proofs.AnyQ.insertionSortCmpFunc Tryz.insA 2 Tryz.isAgg114 Tryz.sizeOf114 encA R.hk R.h1 cfA 87 #[] blk off cap a b d w
  (enters_of Tryz.func87 (by kernel_rfl) rfl) (cmp_on R hC hs S) (S.holds R.hblk R.hH (by omega)) (S.lt R.hblk) hab hb (by omega)
 refine h.mono ?_
 rintro e w' ⟨rfl,n,os,rfl⟩
 have hi:=insertionSort_holds swoA d a b hab hb
 exact⟨rfl,_,hi.1,hi.2,S.on R.hblk n _ os hi.1.1⟩
theorem stable_any (d0 d:Array Attr) (w0 w:World) (blk off cap:Nat) (R:RowK encA 2 w0 blk off d0) (hs:d0.size=d.size) (S:SWK encA 2 w0 blk off d w) (hsz:d.size≤16777216) (hC:CmpLays Tryz.prog 87 #[] encA 2 cfA blk off d0.size w0):
  Calls Tryz.prog 130 #[.slice (some ⟨blk,off,none⟩) d.size cap,.int .i64 d.size,.func (.func 87) #[] #[]] w fun e w'=>e= .returned (.tuple #[])∧∃d',PermIn 0 d.size d d'∧SortedIn (ltOf cfA) 0 d.size d'∧SWK encA 2 w0 blk off d' w':=by
 have S0:Aside _:=S
 have HC:Aside _:=hC
 obtain⟨n,hn⟩:∃n,d.size=n:=⟨_,rfl⟩
 have HN:=Lh hn
 rw[hn]at hs hsz⊢
 have B0:Hid (PermIn 0 n d d∧Bl1 (ltOf cfA) 20 0 d):=Lh ⟨permIn_refl d 0 n,fun j hj=>absurd hj (Nat.not_lt_zero j)⟩
 clear S hC hn
 go_enter Tryz.func130,Tryz.ntmps130
 go_wp2_with fail
 go_loopg [7,8] (n+20) (fun gg va vb wr=>∃(k a b:Nat) (dk:Array Attr),va= .int .i64 a∧vb= .int .i64 b∧Hid (a=k*20)∧Hid (b=k*20+20)∧b=a+20∧a≤n∧n+20 - a≤gg∧Hid (dk.size=n)∧Aside (SWK encA 2 w0 blk off dk wr)∧Hid (PermIn 0 n d dk∧Bl1 (ltOf cfA) 20 k dk))
 case atStart=>exact⟨0,0,20,d,rfl,rfl,Lh rfl,Lh rfl,rfl,Nat.zero_le _,by omega,HN,S0,B0⟩
 case round=>
  clear S0 B0
  obtain⟨k,a,b,dk,rfl,rfl,ha,hb,hba,han,hg,hk,S1,HB⟩:=hrel
  have HBA:=Lh hba
  have hab:a≤b∧a+20≤b:=by omega
  by_cases hlt:b≤n
  ·
   have hltI:(b:Int)≤(n:Int):=by omega
   have HI:=Lh (ins_any d0 dk w0 wr blk off cap R (by have:=hk.out;omega) S1.out (by have:=hk.out;omega) HC.out a b hab.1 (by have:=hk.out;omega))
   rw[hk.out]at HI
   clear hba
   go_wp2_with fail
   refine HI.out.mono ?_
   rintro e w2 ⟨rfl,d2,p1,p2,S2⟩
   have HP:=Lh (And.intro p1 p2)
   clear p1 p2
   go_wp2_with fail
   go_roundg (n+20 - b)
   case measure=>omega
   case rel=>
    refine⟨k+1,b,b+20,d2,rfl,by go_num,Lh (by rw[hb.out,Nat.add_mul]),Lh (by rw[hb.out,Nat.add_mul]),rfl,hlt,Nat.le_refl _,Lh (HP.out.1.1.trans hk.out),S2,Lh ⟨?_,?_⟩⟩
    ·
     exact permIn_trans _ _ _ _ _ HB.out.1 (permIn_mono _ _ _ _ _ _ (Nat.zero_le _) hlt (by have:=hk.out;omega) HP.out.1)
    ·
     exact bl_one HB.out.2 (by rw[←ha.out,←HBA.out];exact HP.out.1) (by rw[←ha.out,←HBA.out];exact HP.out.2)
  ·
   have hltI:¬(b:Int)≤(n:Int):=by omega
   have HI:=Lh (ins_any d0 dk w0 wr blk off cap R (by have:=hk.out;omega) S1.out (by have:=hk.out;omega) HC.out a n han (by have:=hk.out;omega))
   rw[hk.out]at HI
   clear hba
   go_wp2_with fail
   refine HI.out.mono ?_
   rintro e w2 ⟨rfl,d2,p1,p2,S2⟩
   have B2:Hid (PermIn 0 n d d2∧Bl2 (ltOf cfA) 20 n d2):=Lh ⟨permIn_trans _ _ _ _ _ HB.out.1 (permIn_mono _ _ _ _ _ _ (Nat.zero_le _) (Nat.le_refl _) (by have:=hk.out;omega) p1),bl_two HB.out.2 (by have:=hb.out;omega) (by rw[←ha.out];exact p1) (by rw[←ha.out];exact p2)⟩
   have hk2:Hid (d2.size=n):=Lh (p1.1.trans hk.out)
   clear p1 p2 HB S1 ha hb hk hab hltI hlt han hg HBA
   go_wp2_with fail
   go_loopg [6,7,8,9] n (fun gg vs _ _ _ wr=>∃(s:Nat) (dk:Array Attr),vs= .int .i64 s∧20≤s∧s≤2*n+20∧n - s≤gg∧Hid (dk.size=n)∧Aside (SWK encA 2 w0 blk off dk wr)∧Hid (PermIn 0 n d dk∧Bl2 (ltOf cfA) s n dk))
   case atStart=>exact⟨20,d2,rfl,Nat.le_refl _,by omega,by omega,hk2,S2,B2⟩
   case round=>
    clear S2 B2 hk2
    obtain⟨s,dk,rfl,hs20,hsn,hg,hk,S1,HB⟩:=hrel
    by_cases hlt:s< n
    ·
     have hltI:(s:Int)< (n:Int):=by omega
     have B3:Hid (PermIn 0 n d dk∧Bl1 (ltOf cfA) (2*s) 0 dk∧Bl3 (ltOf cfA) s 0 n dk):=Lh ⟨HB.out.1,bl_start HB.out.2⟩
     have z2:2*(s:Int)=((2*s:Nat):Int):=by omega
     obtain⟨t,ht⟩:∃t,2*s=t:=⟨_,rfl⟩
     rw[ht]at z2
     have hts:t=s+s:=by omega
     have HT:=Lh (And.intro ht hts)
     have hts2:s+s≤t∧t≤s+s:=by omega
     clear ht hts HB
     go_wp2_with fail
     go_loopg [7,8] (n+t) (fun gg va vb wr=>∃(k a b:Nat) (dk:Array Attr),va= .int .i64 a∧vb= .int .i64 b∧Hid (a=k*(2*s))∧Hid (b=a+t)∧a+t≤b∧b≤a+t∧a≤n∧n+t - a≤gg∧Hid (dk.size=n)∧Aside (SWK encA 2 w0 blk off dk wr)∧Hid (PermIn 0 n d dk∧Bl1 (ltOf cfA) (2*s) k dk∧Bl3 (ltOf cfA) s k n dk))
     case atStart=>exact⟨0,0,t,dk,rfl,by go_num,Lh (by simp),Lh (by omega),by omega,by omega,Nat.zero_le _,by omega,hk,S1,B3⟩
     case round=>
      clear S1 B3 hk
      obtain⟨k,a,b,dk,rfl,rfl,ha,hb,hb1,hb2,han,hg2,hk,S1,HB⟩:=hrel
      obtain⟨m,hm⟩:∃m,a+s=m:=⟨_,rfl⟩
      have zm:(a:Int)+(s:Int)=(m:Int):=by omega
      have hmm:a+s≤m∧m≤a+s:=by omega
      have HMM:=Lh hm
      clear hm
      by_cases hbn:b≤n
      ·
       have hbnI:(b:Int)≤(n:Int):=by omega
       have PR:=Lh (bl_pair HB.out.2.2)
       have HM:=Lh (merge_any (cap:=cap) R HC.out (b - a) dk wr (by have:=hk.out;omega) S1.out (by have:=hk.out;omega) a m b (Nat.le_refl _) (by omega) (by omega) (by have:=hk.out;omega)
        (by have:=PR.out.1;rw[←ha.out,Nat.min_eq_left (by omega),HMM.out]at this;exact this) (by have:=PR.out.2;rw[←ha.out,Nat.min_eq_left (by omega),show a+s+s=b by have:=hb.out;have:=HT.out.2;omega,HMM.out]at this;exact this))
       rw[hk.out]at HM
       go_wp2_with fail
       refine HM.out.mono ?_
       rintro e w3 ⟨rfl,d3,p1,p2,S3⟩
       have HP:=Lh (And.intro p1 p2)
       clear p1 p2
       go_wp2_with fail
       go_roundg (n+t - b)
       case measure=>omega
       case rel=>
        have eb:b=k*(2*s)+2*s:=by rw[hb.out,ha.out,HT.out.1]
        refine⟨k+1,b,b+t,d3,rfl,by go_num,Lh (by rw[eb,Nat.add_mul,Nat.one_mul]),Lh rfl,by omega,by omega,hbn,Nat.le_refl _,Lh (HP.out.1.1.trans hk.out),S3,Lh ⟨?_,?_,?_⟩⟩
        ·
         exact permIn_trans _ _ _ _ _ HB.out.1 (permIn_mono _ _ _ _ _ _ (Nat.zero_le _) hbn (by have:=hk.out;omega) HP.out.1)
        ·
         exact bl_one HB.out.2.1 (by rw[←eb,←ha.out];exact HP.out.1) (by rw[←eb,←ha.out];exact HP.out.2)
        ·
         exact bl_three HB.out.2.2 (by rw[←eb,←ha.out];exact HP.out.1)
      ·
       have hbnI:¬(b:Int)≤(n:Int):=by omega
       have PR:=Lh (bl_pair HB.out.2.2)
       have z2s:(s:Int)*2=(t:Int):=by omega
       by_cases hmn:m< n
       ·
        have hmnI:(m:Int)< (n:Int):=by omega
        have HM:=Lh (merge_any (cap:=cap) R HC.out (n - a) dk wr (by have:=hk.out;omega) S1.out (by have:=hk.out;omega) a m n (Nat.le_refl _) (by omega) (by omega) (by have:=hk.out;omega)
         (by have:=PR.out.1;rw[←ha.out,Nat.min_eq_left (by omega),HMM.out]at this;exact this) (by have:=PR.out.2;rw[←ha.out,Nat.min_eq_right (by omega),HMM.out]at this;exact this))
        rw[hk.out]at HM
        go_wp2_with fail
        refine HM.out.mono ?_
        rintro e w3 ⟨rfl,d3,p1,p2,S3⟩
        have HP:=Lh (And.intro p1 p2)
        clear p1 p2
        go_wp2_with fail
        go_roundg (n - t)
        case measure=>omega
        case rel=>
         refine⟨t,d3,by go_num,by omega,by omega,Nat.le_refl _,Lh (HP.out.1.1.trans hk.out),S3,Lh ⟨?_,?_⟩⟩
         ·
          exact permIn_trans _ _ _ _ _ HB.out.1 (permIn_mono _ _ _ _ _ _ (Nat.zero_le _) (Nat.le_refl _) (by have:=hk.out;omega) HP.out.1)
         ·
          rw[←HT.out.1];exact bl_two HB.out.2.1 (by rw[←ha.out,HT.out.1];omega) (by rw[←ha.out];exact HP.out.1) (by rw[←ha.out];exact HP.out.2)
       ·
        have hmnI:¬(m:Int)< (n:Int):=by omega
        go_wp2_with fail
        go_roundg (n - t)
        case measure=>omega
        case rel=>
         refine⟨t,dk,by go_num,by omega,by omega,Nat.le_refl _,hk,S1,Lh ⟨HB.out.1,?_⟩⟩
         rw[←HT.out.1]
         exact bl_two HB.out.2.1 (by rw[←ha.out,HT.out.1];omega) (permIn_refl _ _ _) (by have:=PR.out.1;rw[←ha.out,Nat.min_eq_right (by omega)]at this;rw[←ha.out];exact this)
    ·
     have hltI:¬(s:Int)< (n:Int):=by omega
     go_wp2_with fail
     refine bodyPost_end (results_none rfl _ _ _) rfl ?_
     exact⟨rfl,dk,HB.out.1,bl_end HB.out.2 (by omega),S1.out⟩
open Go.RowKit
def insK (g:List (Step×Node)) (x:Step×Node):List (Step×Node):=insAt g (g.countP fun y=>aheadB y.1 x.1) x
def sortK (l:List (Step×Node)):List (Step×Node):=l.foldl insK []
def stK (l:List (Step×Node)):List Step:=l.map (·.1)
def ndK (l:List (Step×Node)):List Node:=l.map (·.2)
theorem insK_st (g:List (Step×Node)) (x:Step×Node):stK (insK g x)=insAt (stK g) ((stK g).countP fun y=>aheadB y x.1) x.1:=by
 unfold stK insK
 rw[map_insAt,List.countP_map];rfl
theorem insK_nd (g:List (Step×Node)) (x:Step×Node):ndK (insK g x)=insAt (ndK g) ((stK g).countP fun y=>aheadB y x.1) x.2:=by
 unfold ndK insK stK
 rw[map_insAt,List.countP_map];rfl
theorem insK_perm (g:List (Step×Node)) (x:Step×Node):(insK g x).Perm (g++ [x]):=by
 unfold insK insAt
 generalize g.countP _=n
 exact(List.perm_middle.trans (by rw[List.take_append_drop])).trans (List.perm_append_singleton x g).symm
theorem sortK_snoc (l:List (Step×Node)) (x:Step×Node):sortK (l++ [x])=insK (sortK l) x:=by unfold sortK;rw[List.foldl_append];rfl
theorem foldK_perm:∀(l g:List (Step×Node)),(l.foldl insK g).Perm (g++l)
 | [],g=>by simp
 | x::r,g=>by
  rw[List.foldl_cons]
  exact(foldK_perm r _).trans (((insK_perm g x).append_right r).trans (by simp))
theorem sortK_perm (l:List (Step×Node)):(sortK l).Perm l:=by have:=foldK_perm l [];rwa [List.nil_append]at this
theorem foldK_rise:∀(l g:List (Step×Node)),Rising (stK g)→(stK (g++l)).Nodup→Rising (stK (l.foldl insK g))
 | [],g,h,_=>h
 | x::r,g,h,hn=>by
  rw[List.foldl_cons]
  have hx:x.1∉stK g:=by
   intro hm
   unfold stK at hn hm
   rw[List.map_append,List.nodup_append]at hn
   exact hn.2.2 x.1 hm x.1 (by simp) rfl
  refine foldK_rise r _ ?_ ?_
  ·
   rw[insK_st,countP_pos _ _ h];exact stepPos_new _ _ h hx
  ·
   have hp:(stK (insK g x++r)).Perm (stK (g++x::r)):=List.Perm.map _ (((insK_perm g x).append_right r).trans (by simp))
   exact hp.nodup_iff.2 hn
theorem sortK_rise (l:List (Step×Node)) (h:(stK l).Nodup):Rising (stK (sortK l)):=foldK_rise l [] (by simp[stK,Rising]) (by simpa using h)
theorem sortK_uniq {l m:List (Step×Node)} (h:(stK l).Nodup) (hp:m.Perm l) (hs:Rising (stK m)):m=sortK l:=by
 have h1:=sortK_rise l h
 unfold Rising stK at h1 hs
 rw[List.pairwise_map]at h1 hs
 refine List.Perm.eq_of_pairwise (fun a b _ _ k1 k2=> ?_) hs h1 (hp.trans (sortK_perm l).symm)
 rw[aheadB_asymm _ _ k1]at k2;cases k2
theorem sortK_eq {l m:List (Step×Node)} (h:(stK l).Nodup) (hp:m.Perm l):sortK m=sortK l:=
 sortK_uniq h ((sortK_perm m).trans hp) (sortK_rise m ((List.Perm.map _ hp).nodup_iff.2 h))
def childP (l:List Rule) (k:Node) (path:List Bytes) (at':Int):(Int×Int) ⊕ (Step×Node):=
 if findS path l 0< 0 then .inl (24,at')
 else if(normN l k path at').2.1≠0 then .inl (normN l k path at').2
 else match keyS (normN l k path at').1 (l.getD (findS path l 0).toNat noRule).keys with
  | none=> .inl (22,at')
  | some key=> .inr (⟨k.name,key⟩,(normN l k path at').1)
def kidsP (l:List Rule) (path:List Bytes) (own:Int):List Node→Int→List (Step×Node)→(Int×Int) ⊕ List (Step×Node)
 | [],_,acc=> .inr acc
 | k::r,at',acc=>
  if k.kind=2∧trimB k.text≠ []then .inl (24,own)
  else if k.kind≠1 then kidsP l path own r at' acc
  else match childP l k (path++ [k.name]) at' with
   | .inl e=> .inl e
   | .inr x=>if acc.any (fun y=>stepB y.1 x.1)=true then .inl (23,at')else kidsP l path own r (at'+elemsN k) (acc++ [x])
def outK (nm:Bytes) (la:List Attr):(Int×Int) ⊕ List (Step×Node)→Node×Int×Int
 | .inl e=>(zeroN,e)
 | .inr g=>(.mk 1 nm [] la (ndK (sortK g)),0,0)
theorem normL_kids (l:List Rule) (nm:Bytes) (la:List Attr) (path:List Bytes) (first:Int):∀(ks:List Node) (at':Int) (acc:List (Step×Node)),
  normL l ks nm la path first (stK (sortK acc)) (ndK (sortK acc)) at'=outK nm la (kidsP l path first ks at' acc)
 | [],at',acc=>by rw[normL,kidsP];rfl
 | k::r,at',acc=>by
  rw[normL,kidsP]
  by_cases h1:k.kind=2∧trimB k.text≠ []
  ·
   rw[if_pos h1,if_pos h1];rfl
  ·
   rw[if_neg h1,if_neg h1]
   by_cases h2:k.kind≠1
   ·
    rw[if_pos h2,if_pos h2];exact normL_kids l nm la path first r at' acc
   ·
    rw[if_neg h2,if_neg h2]
    unfold childP
    by_cases h3:findS (path++ [k.name]) l 0< 0
    ·
     rw[if_pos h3,if_pos h3];rfl
    ·
     rw[if_neg h3,if_neg h3]
     by_cases h4:(normN l k (path++ [k.name]) at').2.1≠0
     ·
      rw[if_pos h4,if_pos h4];rfl
     ·
      rw[if_neg h4,if_neg h4]
      cases keyS (normN l k (path++ [k.name]) at').1 (l.getD (findS (path++ [k.name]) l 0).toNat noRule).keys with
      | none=>rfl
      | some key=>
       simp only
       have ha:((stK (sortK acc)).any fun s=>stepB s ⟨k.name,key⟩)=acc.any fun y=>stepB y.1 ⟨k.name,key⟩:=by
        unfold stK
        rw[List.any_map]
        exact(sortK_perm acc).any_eq
       rw[ha]
       cases acc.any fun y=>stepB y.1 ⟨k.name,key⟩with
       | true=>rw[if_pos rfl,if_pos rfl];rfl
       | false=>
        rw[if_neg (by simp),if_neg (by simp),←insK_st (sortK acc) (⟨k.name,key⟩,(normN l k (path++ [k.name]) at').1),←insK_nd (sortK acc) (⟨k.name,key⟩,(normN l k (path++ [k.name]) at').1),←sortK_snoc]
        exact normL_kids l nm la path first r (at'+elemsN k) _
theorem normN_kids (l:List Rule) (a:Node) (path:List Bytes) (first:Int) (h:frontS l path=false):normN l a path first=outK a.name (sortA [] a.attrs) (kidsP l path first a.kids (first+1) []):=by
 rw[normN_eq,h,if_neg (by simp)]
 exact normL_kids l a.name _ path first a.kids (first+1) []
def itemV (l:List Rule) (path:List Bytes) (k:Node):Step×Node:=(⟨k.name,(keyS (normN l k (path++ [k.name]) 0).1 (l.getD (findS (path++ [k.name]) l 0).toNat noRule).keys).getD []⟩,(normN l k (path++ [k.name]) 0).1)
mutual
theorem normN_at (l:List Rule):∀(a:Node) (path:List Bytes) (f f':Int),(normN l a path f).2.1=0→normN l a path f'=normN l a path f
 | .mk k nm tx la ks,path,f,f',h=>by
  rw[normN]at h⊢
  rw[normN]
  split at h
  ·
   rename_i hf;rw[if_pos hf,if_pos hf]
  ·
   rename_i hf;rw[if_neg hf,if_neg hf];exact normL_at l ks nm _ path f f' [] [] _ _ h
theorem normL_at (l:List Rule):∀(ks:List Node) (nm:Bytes) (la:List Attr) (path:List Bytes) (f f':Int) (steps:List Step) (out:List Node) (a a':Int),
  (normL l ks nm la path f steps out a).2.1=0→normL l ks nm la path f' steps out a'=normL l ks nm la path f steps out a
 | [],nm,la,path,f,f',steps,out,a,a',_=>by rw[normL,normL]
 | k::r,nm,la,path,f,f',steps,out,a,a',h=>by
  rw[normL]at h⊢
  rw[normL]
  split at h
  ·
   simp at h
  ·
   rename_i h1
   rw[if_neg h1,if_neg h1]
   split at h
   ·
    rename_i h2;rw[if_pos h2,if_pos h2];exact normL_at l r nm la path f f' steps out a a' h
   ·
    rename_i h2
    rw[if_neg h2,if_neg h2]
    split at h
    ·
     simp at h
    ·
     rename_i h3
     rw[if_neg h3,if_neg h3]
     split at h
     ·
      rename_i h4;exact absurd h h4
     ·
      rename_i h4
      have h4':(normN l k (path++ [k.name]) a).2.1=0:=by omega
      rw[normN_at l k (path++ [k.name]) a a' h4',if_neg h4,if_neg h4]
      split at h
      ·
       simp at h
      ·
       rename_i key hk
       split at h
       ·
        simp at h
       ·
        rename_i h5;rw[if_neg h5,if_neg h5];exact normL_at l r nm la path f f' _ _ _ _ h
end
def OkC (l:List Rule) (path:List Bytes) (k:Node):Prop:=(k.kind=2→trimB k.text= [])∧(k.kind=1→¬findS (path++ [k.name]) l 0< 0∧(normN l k (path++ [k.name]) 0).2.1=0∧(keyS (normN l k (path++ [k.name]) 0).1 (l.getD (findS (path++ [k.name]) l 0).toNat noRule).keys).isSome=true)
def elK (ks:List Node):List Node:=ks.filter fun k=>decide (k.kind=1)
theorem kidsP_ok (l:List Rule) (path:List Bytes) (own:Int):∀(ks:List Node) (at':Int) (acc g:List (Step×Node)),(stK acc).Nodup→
  (kidsP l path own ks at' acc= .inr g↔(∀k∈ks,OkC l path k)∧(stK (acc++(elK ks).map (itemV l path))).Nodup∧g=acc++(elK ks).map (itemV l path))
 | [],at',acc,g,ha=>by
  rw[kidsP]
  simp only[elK,List.filter_nil,List.map_nil,List.append_nil,Sum.inr.injEq]
  exact⟨fun h=>⟨by simp,ha,h.symm⟩,fun h=>h.2.2.symm⟩
 | k::r,at',acc,g,ha=>by
  rw[kidsP]
  by_cases h1:k.kind=2∧trimB k.text≠ []
  ·
   rw[if_pos h1]
   exact⟨fun h=>(by cases h),fun h=>absurd ((h.1 k (by simp)).1 h1.1) h1.2⟩
  ·
   rw[if_neg h1]
   by_cases h2:k.kind≠1
   ·
    rw[if_pos h2,kidsP_ok l path own r at' acc g ha]
    have e:elK (k::r)=elK r:=by unfold elK;rw[List.filter_cons_of_neg (by simpa using h2)]
    have ok:OkC l path k:=⟨fun h=>Classical.byContradiction fun e=>h1 ⟨h,e⟩,fun h=>absurd h h2⟩
    rw[e]
    exact⟨fun h=>⟨fun x hx=>by rcases List.mem_cons.1 hx with rfl | hx;exact ok;exact h.1 x hx,h.2⟩,fun h=>⟨fun x hx=>h.1 x (List.mem_cons_of_mem _ hx),h.2⟩⟩
   ·
    have h2':k.kind=1:=by omega
    rw[if_neg h2]
    have e:elK (k::r)=k::elK r:=by unfold elK;rw[List.filter_cons_of_pos (by simpa using h2')]
    rw[e,List.map_cons]
    unfold childP
    by_cases h3:findS (path++ [k.name]) l 0< 0
    ·
     rw[if_pos h3];exact⟨fun h=>(by cases h),fun h=>absurd h3 ((h.1 k (by simp)).2 h2').1⟩
    ·
     rw[if_neg h3]
     by_cases h4:(normN l k (path++ [k.name]) at').2.1≠0
     ·
      rw[if_pos h4]
      exact⟨fun h=>(by cases h),fun h=>by
       have q:=((h.1 k (by simp)).2 h2').2.1
       rw[normN_at l k _ 0 at' q]at h4;exact absurd q h4⟩
     ·
      rw[if_neg h4]
      have h4':(normN l k (path++ [k.name]) at').2.1=0:=by omega
      have hn:=normN_at l k _ at' 0 h4'
      have hi:itemV l path k=(⟨k.name,(keyS (normN l k (path++ [k.name]) at').1 (l.getD (findS (path++ [k.name]) l 0).toNat noRule).keys).getD []⟩,(normN l k (path++ [k.name]) at').1):=by unfold itemV;rw[hn]
      cases hk:keyS (normN l k (path++ [k.name]) at').1 (l.getD (findS (path++ [k.name]) l 0).toNat noRule).keys with
      | none=>
       refine⟨fun h=>(by cases h),fun h=> ?_⟩
       have q:=((h.1 k (by simp)).2 h2').2.2
       rw[hn,hk]at q;cases q
      | some key=>
       simp only
       rw[hk,Option.getD_some]at hi
       have ok:OkC l path k:=⟨fun h=>(by omega),fun _=>⟨h3,by rw[hn];exact h4',by rw[hn,hk];rfl⟩⟩
       rw[hi]
       cases hy:acc.any fun y=>stepB y.1 ⟨k.name,key⟩with
       | true=>
        rw[if_pos rfl]
        refine⟨fun h=>(by cases h),fun h=> ?_⟩
        obtain⟨y,hm,hb⟩:=List.any_eq_true.1 hy
        have hn2:=h.2.1
        unfold stK at hn2
        rw[List.map_append,List.nodup_append]at hn2
        exact absurd ((stepB_iff _ _).1 hb) (hn2.2.2 _ (List.mem_map.2 ⟨y,hm,rfl⟩) _ (by simp))
       | false=>
        rw[if_neg (by simp)]
        have hna:(stK (acc++ [(⟨k.name,key⟩,(normN l k (path++ [k.name]) at').1)])).Nodup:=by
         unfold stK
         rw[List.map_append,List.nodup_append]
         refine⟨ha,by simp,fun a hm b hb=> ?_⟩
         simp at hb
         subst hb
         intro e2
         obtain⟨y,hy2,e3⟩:=List.mem_map.1 hm
         have:=List.any_eq_false.1 hy y hy2
         exact this ((stepB_iff _ _).2 (e3.trans e2))
        rw[kidsP_ok l path own r (at'+elemsN k) _ g hna]
        simp only[List.append_assoc,List.singleton_append]
        exact⟨fun h=>⟨fun x hx=>by rcases List.mem_cons.1 hx with rfl | hx;exact ok;exact h.1 x hx,h.2⟩,fun h=>⟨fun x hx=>h.1 x (List.mem_cons_of_mem _ hx),h.2⟩⟩
theorem mk_name (k:Int) (n t:Bytes) (a:List Attr) (c:List Node):(Node.mk k n t a c).name=n:=rfl
theorem mk_attrs (k:Int) (n t:Bytes) (a:List Attr) (c:List Node):(Node.mk k n t a c).attrs=a:=rfl
theorem mk_kids (k:Int) (n t:Bytes) (a:List Attr) (c:List Node):(Node.mk k n t a c).kids=c:=rfl
theorem attrPos_cons (a b:Attr) (r:List Attr):attrPos a (b::r)=if lessB a.n b.n=true then 0 else attrPos a r+1:=by
 unfold attrPos;rw[List.findIdx_cons];cases lessB a.n b.n<;> rfl
def RiseA (l:List Attr):Prop:=l.Pairwise fun a b=>lessB a.n b.n=true
theorem attrPos_rise (a:Attr):∀out:List Attr,RiseA out→(∀b∈out,b.n≠a.n)→RiseA (insAt out (attrPos a out) a)
 | [],_,_=>by simp[insAt,attrPos,RiseA]
 | b::r,h,hn=>by
  rw[attrPos_cons]
  have hb:=hn b (by simp)
  unfold RiseA at h⊢
  rw[List.pairwise_cons]at h
  by_cases hl:lessB a.n b.n=true
  ·
   rw[if_pos hl,insAt_zero,List.pairwise_cons]
   refine⟨fun c hc=> ?_,List.pairwise_cons.2 h⟩
   rcases List.mem_cons.1 hc with rfl | hc
   ·
    exact hl
   ·
    exact lessB_trans _ _ _ hl (h.1 c hc)
  ·
   rw[if_neg hl,insAt_cons,List.pairwise_cons]
   have hba:=lessB_total _ _ (Ne.symm hb) (by simpa using hl)
   refine⟨fun c hc=> ?_,attrPos_rise a r h.2 fun c hc=>hn c (List.mem_cons_of_mem _ hc)⟩
   rcases (mem_insAt _ _ _ _).1 hc with rfl | hc
   ·
    exact hba
   ·
    exact h.1 c hc
theorem insAt_perm' {α:Type} (l:List α) (n:Nat) (x:α):(insAt l n x).Perm (x::l):=by
 unfold insAt
 exact List.perm_middle.trans (by rw[List.take_append_drop])
theorem sortA_perm':∀(l out:List Attr),(sortA out l).Perm (out++l)
 | [],out=>by rw[sortA];simp
 | a::r,out=>by
  rw[sortA]
  exact(sortA_perm' r _).trans (((insAt_perm' out _ a).append_right r).trans (List.perm_middle.symm))
theorem sortA_rise:∀(l out:List Attr),RiseA out→((out++l).map (·.n)).Nodup→RiseA (sortA out l)
 | [],out,h,_=>by rw[sortA];exact h
 | a::r,out,h,hn=>by
  rw[sortA]
  refine sortA_rise r _ (attrPos_rise a out h fun b hb e=> ?_) ?_
  ·
   rw[List.map_append,List.nodup_append]at hn
   exact hn.2.2 b.n (List.mem_map.2 ⟨b,hb,rfl⟩) a.n (by simp) e
  ·
   exact(List.Perm.map _ (((insAt_perm' out _ a).append_right r).trans List.perm_middle.symm)).nodup_iff.2 hn
theorem sortA_uniq {l m:List Attr} (h:(l.map (·.n)).Nodup) (hp:m.Perm l) (hs:RiseA m):m=sortA [] l:=by
 refine List.Perm.eq_of_pairwise (fun a b _ _ k1 k2=> ?_) hs (sortA_rise l [] (by simp[RiseA]) (by simpa using h)) (hp.trans (by have:=(sortA_perm' l []).symm;rwa [List.nil_append]at this))
 have k3:=lessB_trans _ _ _ k1 k2
 rw[lessB_irrefl]at k3;cases k3
mutual
def ndN:Node→Prop
 | .mk _ _ _ la ks=>(la.map (·.n)).Nodup∧ndL ks
def ndL:List Node→Prop
 | []=>True
 | k::r=>ndN k∧ndL r
end
theorem ndN_eq (n:Node):ndN n↔(n.attrs.map (·.n)).Nodup∧ndL n.kids:=by cases n;rw[ndN];rfl
theorem ndL_mem:∀(ks:List Node) (k:Node),ndL ks→k∈ks→ndN k
 | x::r,k,h,hm=>by
  rw[ndL]at h
  rcases List.mem_cons.1 hm with rfl | hm
  ·
   exact h.1
  ·
   exact ndL_mem r k h.2 hm
theorem kidsP_err (l:List Rule) (path:List Bytes) (own:Int):∀(ks:List Node) (at':Int) (acc:List (Step×Node)) (e:Int×Int),kidsP l path own ks at' acc= .inl e→e.1≠0
 | [],at',acc,e,h=>by rw[kidsP]at h;cases h
 | k::r,at',acc,e,h=>by
  rw[kidsP]at h
  split at h
  ·
   cases h;simp
  ·
   split at h
   ·
    exact kidsP_err l path own r _ _ e h
   ·
    split at h
    ·
     rename_i e' he
     cases h
     unfold childP at he
     split at he
     ·
      cases he;simp
     ·
      split at he
      ·
       rename_i hc;cases he;exact hc
      ·
       split at he
       ·
        cases he;simp
       ·
        cases he
    ·
     split at h
     ·
      cases h;simp
     ·
      exact kidsP_err l path own r _ _ e h
theorem compare_any (a b:Bytes) (w:World):Calls Tryz.prog 88 #[.string (bs a),.string (bs b)] w fun e w'=>e= .returned (.int .i64 (Lib.compareBytes a b))∧w'=w:=Tryz.strings_Compare (bs a) (bs b) w
theorem cmpA_any (x y:Attr) (W:World):Calls Tryz.prog 87 #[.agg #[.string (bs x.n),.string (bs x.v)],.agg #[.string (bs y.n),.string (bs y.v)]] W fun e w'=>e= .returned (.int .i64 (cfA x y))∧∃q os',w'=grow (W.drewN q) os':=by
 have HC:=Lh fun W=>compare_any x.n y.n W
 go_enter Tryz.func87,Tryz.ntmps87
 go_wp2_with fail
 refine(HC.out _).mono ?_
 rintro e w1 ⟨rfl,rfl⟩
 go_wp2_with fail
 go_ret
 exact⟨rfl,0,#[_]++ #[_],by rw[alloc_eq_grow,alloc_eq_grow,grow_grow];rfl⟩
theorem cmp_lays (blk size:Nat) (w:World):CmpLays Tryz.prog 87 #[] encA 2 cfA blk 0 size w:=fun m os dk _ x y=>cmpA_any x y _
theorem flatA_list (d:Array Attr):(flatK encA 2 d).toList=d.toList.flatMap encA:=by
 refine List.ext_getElem? fun j=> ?_
 have hlen:∀L:List Attr,(L.flatMap encA).length=L.length*2:=fun L=>by
  induction L with
  | nil=>rfl
  | cons a r ih=>rw[List.flatMap_cons,List.length_append,ih,List.length_cons,Nat.add_mul];simp[encA];omega
 have hget:∀(L:List Attr) (i c:Nat) (h:i< L.length),c< 2→(L.flatMap encA)[i*2+c]? =(encA L[i])[c]? :=fun L=>by
  induction L with
  | nil=>intro i c h;cases h
  | cons a r ih=>
   intro i c h hc
   rw[List.flatMap_cons]
   cases i with
   | zero=>rw[Nat.zero_mul,Nat.zero_add,List.getElem?_append_left (by simpa [encA]using hc)];rfl
   | succ i=>rw[List.getElem?_append_right (by simp[encA];omega),show(i+1)*2+c - (encA a).length=i*2+c by simp[encA];omega,ih i c (by simpa using h) hc];rfl
 by_cases hj:j< d.size*2
 ·
  have hi2:j / 2< d.size:=by omega
  have hf:=get_flatK encA 2 d j hj
  rw[getElem!_pos d (j / 2) hi2,getElem!_pos _ j (by rw[size_flatK];exact hj)]at hf
  have h1:=hget d.toList (j / 2) (j % 2) (by simpa using hi2) (by omega)
  rw[show j / 2*2+j % 2=j by omega]at h1
  rw[h1,Array.getElem?_toList,Array.getElem?_eq_getElem (by rw[size_flatK];exact hj),hf,Array.getElem_toList]
  have h2:j % 2< (encA d[j / 2]).length:=by simp[encA];omega
  rw[List.getElem?_eq_getElem h2,getElem!_pos (encA d[j / 2]) (j % 2) h2]
 ·
  rw[List.getElem?_eq_none (by rw[Array.length_toList,size_flatK];omega),List.getElem?_eq_none (by rw[hlen,Array.length_toList];omega)]
theorem attrD_map (l:List Attr):l.flatMap attrC=(l.flatMap encA).map DV.v:=by
 induction l with
 | nil=>rfl
 | cons a r ih=>rw[List.flatMap_cons,List.flatMap_cons,List.map_append,ih];rfl
theorem reps_v {w:World} {p:Nat→Prop} {us X:List Value} (h:Reps w p us (X.map DV.v)):us=X:=by
 refine List.ext_getElem? fun k=> ?_
 by_cases hk:k< us.length
 ·
  have hx:k< X.length:=by have:=h.1;rw[List.length_map]at this;omega
  have:=h.2 k us[k] (.v X[k]) (List.getElem?_eq_getElem hk) (by rw[List.getElem?_map,List.getElem?_eq_getElem hx];rfl)
  rw[List.getElem?_eq_getElem hk,List.getElem?_eq_getElem hx,this.is]
 ·
  have hx:¬k< X.length:=by have:=h.1;rw[List.length_map]at this;omega
  rw[List.getElem?_eq_none (by omega),List.getElem?_eq_none (by omega)]
theorem _root_.Go.Proofs.SWK.grew {w W:World} {g:Nat} {d:Array Attr} (h:SWK encA 2 w g 0 d W):w.grownBy W (some g):=by
 obtain⟨n,os,rfl⟩:=h
 unfold sortWorldK putRowK
 refine⟨rfl,rfl,rfl,by simp,fun k hk hne=> ?_⟩
 rw[heap_grow_old _ _ (by simpa using hk)]
 have:g≠k:=fun e=>hne (by rw[e])
 simp[putRow,mapBlock,ahead,Array.getElem?_modify,this]
theorem ssf_any (d:Array Attr) (w:World) (blk cap:Nat) (R:RowK encA 2 w blk 0 d) (hsz:d.size≤16777216):
  Calls Tryz.prog 86 #[.slice (some ⟨blk,0,none⟩) d.size cap,.func (.func 87) #[] #[]] w fun e w'=>e= .returned (.tuple #[])∧∃d',PermIn 0 d.size d d'∧SortedIn (ltOf cfA) 0 d.size d'∧SWK encA 2 w blk 0 d' w':=by
 have HS:=Lh (stable_any d d w w blk 0 cap R rfl (SWK.start R.hH) hsz (cmp_lays blk d.size w))
 go_enter Tryz.func86,Tryz.ntmps86
 go_wp2_with fail
 refine HS.out.mono ?_
 rintro e w2 ⟨rfl,d',h⟩
 go_wp2_with fail
 refine bodyPost_end (results_none rfl _ _ _) rfl ?_
 exact⟨rfl,d',h⟩
theorem ins_nil (a:Option Addr) (cap:Nat) (f:Value) (w:World):Calls Tryz.prog 172 #[.slice a 0 cap,.int .i64 0,.int .i64 0,f] w fun e w'=>e= .returned (.tuple #[])∧w'=w:=by
 go_enter Tryz.func172,Tryz.ntmps172
 go_wp2_with fail
 go_loopg [8] 0 (fun gg v wr=>v= .int .i64 1∧wr=w)
 case atStart=>exact⟨rfl,rfl⟩
 case round=>
  obtain⟨rfl,rfl⟩:=hrel
  go_wp2_with fail
  refine bodyPost_end (results_none rfl _ _ _) rfl ?_
  exact⟨rfl,rfl⟩
theorem stable_nil (a:Option Addr) (cap:Nat) (f:Value) (w:World):Calls Tryz.prog 130 #[.slice a 0 cap,.int .i64 0,f] w fun e w'=>e= .returned (.tuple #[])∧w'=w:=by
 have HI:=Lh fun w=>ins_nil a cap f w
 go_enter Tryz.func130,Tryz.ntmps130
 go_wp2_with fail
 go_loopg [7,8] 0 (fun gg va vb wr=>va= .int .i64 0∧vb= .int .i64 20∧wr=w)
 case atStart=>exact⟨rfl,rfl,rfl⟩
 case round=>
  obtain⟨rfl,rfl,rfl⟩:=hrel
  go_wp2_with fail
  refine(HI.out _).mono ?_
  rintro e w2 ⟨rfl,rfl⟩
  go_wp2_with fail
  go_loopg [6] 0 (fun gg va wr=>va= .int .i64 20∧wr=w2)
  case atStart=>exact⟨rfl,rfl⟩
  case round=>
   obtain⟨rfl,rfl⟩:=hrel
   go_wp2_with fail
   refine bodyPost_end (results_none rfl _ _ _) rfl ?_
   exact⟨rfl,rfl⟩
theorem ssf_nil (a:Option Addr) (cap:Nat) (w:World):Calls Tryz.prog 86 #[.slice a 0 cap,.func (.func 87) #[] #[]] w fun e w'=>e= .returned (.tuple #[])∧w'=w:=by
 have HI:=Lh fun w=>stable_nil a cap (.func (.func 87) #[] #[]) w
 go_enter Tryz.func86,Tryz.ntmps86
 go_wp2_with fail
 refine(HI.out _).mono ?_
 rintro e w2 ⟨rfl,rfl⟩
 go_wp2_with fail
 refine bodyPost_end (results_none rfl _ _ _) rfl ?_
 exact⟨rfl,rfl⟩
theorem rep_empty {w:World} {p q:Nat→Prop} {v:Value} {z:Nat} (h:Rep w p v (.s z [])):Rep w q v (.s z []):=by
 cases h with
 | nil=>exact .nil z
 | emp ad=>exact .emp ad z
 | row b off len cap _ us _ hok hl hu hcap hm hc hr=>
  have h0:us= []:=List.eq_nil_of_length_eq_zero (by rw[hu,←hl];rfl)
  subst h0
  exact .row b off len cap z [] [] (fun h=>absurd h (by simp)) hl hu hcap hm (fun k u h=>by simp at h) (fun k u e h=>by simp at h)
theorem flatA_get (l:List Attr) (j:Nat) (hj:j< l.length*2):(l.flatMap encA)[j]? =some (flatK encA 2 l.toArray)[j]! :=by
 have h:=flatA_list l.toArray
 rw[show l.toArray.toList=l from rfl]at h
 rw[←h,Array.getElem?_toList,Array.getElem?_eq_getElem (by rw[size_flatK];simpa using hj),getElem!_pos _ j (by rw[size_flatK];simpa using hj)]
theorem sorted_rise {l m:List Attr} (hp:m.Perm l) (hn:(l.map (·.n)).Nodup) (hs:∀i j (hi:i< m.length) (hj:j< m.length),i< j→lessB m[j].n m[i].n=false):m=sortA [] l:=by
 refine sortA_uniq hn hp ?_
 have hnm:(m.map (·.n)).Nodup:=(hp.map _).nodup_iff.2 hn
 unfold RiseA
 rw[List.pairwise_iff_getElem]
 intro i j hi hj hij
 refine lessB_total _ _ (fun e=> ?_) (hs i j hi hj hij)
 have h2:=List.pairwise_iff_getElem.1 hnm i j (by simpa using hi) (by simpa using hj) hij
 exact h2 (by simpa using e.symm)
theorem rising_any (l:List Attr) (hnd:(l.map (·.n)).Nodup) (p:Nat→Prop) (v:Value) (w:World) (hl:l.length≤16777216) (h:Rep w p v (attrsD l)):
  Calls Tryz.prog 45 #[v] w fun e w'=>Ret (fun b=>w.heap.size≤b) (attrsD (sortA [] l)) e w'∧Ext w w':=by
 have HC:=Lh (cloneat_own l p v w hl h)
 obtain⟨R,hR⟩:∃R,sortA [] l=R:=⟨_,rfl⟩
 rw[hR]
 go_enter Tryz.func45,Tryz.ntmps45
 go_wp2_with fail
 refine HC.out.mono ?_
 rintro e w1 ⟨⟨u,rfl,hu⟩,hX1⟩
 obtain⟨us,hr,hus⟩:=hu
 rw[attrD_map]at hus
 obtain rfl:=reps_v hus
 by_cases h0:l= []
 ·
  subst h0
  obtain rfl:R= []:=by rw[←hR];rfl
  obtain⟨a,cap,rfl,_,_⟩:=Own.form ⟨_,hr,hus⟩
  simp only[List.length_nil]at*
  have HI:=Lh fun w=>ssf_nil a cap w
  go_wp2_with fail
  refine(HI.out _).mono ?_
  rintro e w2 ⟨rfl,rfl⟩
  go_wp2_with fail
  go_ret
  exact⟨⟨_,rfl,rep_empty (Own.rep ⟨_,hr,hus⟩)⟩,hX1⟩
 ·
  have hn0:0< l.length:=List.length_pos_iff.2 h0
  have hfl:(l.flatMap encA).length=l.length*2:=by
   have:=size_flatK encA 2 l.toArray
   rw[←Array.length_toList,flatA_list]at this;simpa using this
  rcases hr.2 with⟨hv,h2⟩ | ⟨g,cap,cur,rfl,hbase,hb,h1,h2,h3,h4⟩
  ·
   exfalso;rw[h2]at hfl;simp at hfl;omega
  ·
   have hg:g< w1.heap.size:=blk_lt hb
   have hH:HoldsK encA 2 w1 g 0 l.toArray:=fun j hj=>by
    rw[size_flatK]at hj
    have hj2:j< l.length*2:=by simpa using hj
    rw[Nat.zero_add,hr.cellAt j hj2,flatA_get l j hj2]
    exact⟨rfl,hr.frozenAt j⟩
   have HS:=Lh (ssf_any l.toArray w1 g cap ⟨fun x=>rfl,fun x v hv=>by simp[encA]at hv;rcases hv with rfl | rfl<;> rfl,hH,hg⟩ (by simpa using hl))
   rw[show l.toArray.size=l.length by simp]at HS
   go_wp2_with fail
   refine HS.out.mono ?_
   rintro e w2 ⟨rfl,d',hpm,hst,S⟩
   go_wp2_with fail
   go_ret
   have hds:d'.size=l.length:=by rw[hpm.1];simp
   have hperm:d'.toList.Perm l:=by
    have:=hpm.2.2
    rw[show d'.extract 0 l.length=d' by rw[←hds];exact Array.extract_size,show l.toArray.extract 0 l.length=l.toArray by rw[show l.length=l.toArray.size by simp];exact Array.extract_size]at this
    exact this
   have hR2:d'.toList=R:=by
    rw[←hR]
    refine sorted_rise hperm hnd fun i j hi hj hij=> ?_
    have:=hst i j (Nat.zero_le _) hij (by rw[Array.length_toList]at hj;omega)
    rw[ltA_eq,getElem!_pos d' i (by simpa using hi),getElem!_pos d' j (by simpa using hj)]at this
    rw[Array.getElem_toList,Array.getElem_toList];exact this
   have hX2:Ext w w2:=Below.grown hX1 S.grew hX1.size fun k hk=>by cases hk;exact hbase
   have hH2:=S.holds hg hH (by rw[hds];simp)
   have hbd:∀x∈d'.toList,(bs x.n).size≤9223372036854775807∧(bs x.v).size≤9223372036854775807:=fun x hx=>by
    obtain⟨i,hi,rfl⟩:=List.getElem_of_mem (hperm.mem_iff.1 hx)
    have:=attr_len h i hi
    rw[bs_size,bs_size];exact this
   refine⟨⟨_,rfl,?_⟩,hX2⟩
   rw[←hR2]
   refine Rep.row g 0 l.length cap 2 (d'.toList.flatMap encA) _ (fun _=>hbase) ?_ ?_ h1 h2 (fun k u hk=> ?_) (fun k u e hk he=> ?_)
   ·
    rw[attrD_map,List.length_map,←flatA_list,Array.length_toList,size_flatK,hds]
   ·
    rw[←flatA_list,Array.length_toList,size_flatK,hds]
   ·
    rw[←flatA_list,Array.getElem?_toList]at hk
    obtain⟨hk1,rfl⟩:=Array.getElem?_eq_some_iff.1 hk
    have:=(hH2 k hk1).1
    rw[getElem!_pos _ k hk1]at this
    exact this
   ·
    rw[attrD_map,List.getElem?_map,hk]at he
    cases he
    obtain⟨x,hx,hu⟩:=List.mem_flatMap.1 (List.mem_of_getElem? hk)
    simp only[encA,List.mem_cons,List.not_mem_nil,or_false]at hu
    rcases hu with rfl | rfl
    ·
     exact Rep.string _ _ _ (hbd x hx).1
    ·
     exact Rep.string _ _ _ (hbd x hx).2
end Go.Proofs.YtcfibjiikhnfhaaGreatDoor
