/-
 law29:IndexParts. Helper lemmas;no statement of the seat is proved here.
-/
import Derived.Test.YtngmgjodcnknoaaGreatDoorU30
namespace Go.Proofs.YtngmgjodcnknoaaGreatDoor
open Go.RowKit
set_option maxHeartbeats 32000000
set_option maxRecDepth 100000
set_option linter.unusedVariables false
set_option linter.unusedSimpArgs false
theorem parts_walk (l:List Rule) (hb:RulesB l) (hll:l.length≤1048576) (docs:List Node) (hcnt:∀d∈docs,cntN d≤1048576) (pa pb:Bytes) (hza:pa.length≤1048576) (hzb:pb.length≤1048576) (p:Nat→Prop) (vl vd:Value) (w:World) (hvl:Rep w p vl (rulesD l)) (hvd:Rep w p vd (nodesD docs)) (hmax:∃mx,w.cell? ⟨0,0,none⟩=some (.int .i64 mx)) (l00:0< w.heap.size):
  Calls Tryz.prog 5 #[vl,vd,.agg #[.string (bs pa),.string (bs pb)]] w fun e w'=>e= .returned (.bool true)∧Ext w w':=by
 obtain⟨w1,hw1⟩:∃X,w.alloc (.cells #[.string (bs pa),.string (bs pb)] 56)=X:=⟨_,rfl⟩
 have hE1:Ext w w1:=by rw[←hw1];exact(Ext.refl _).alloc _
 have k0:w1.cell? ⟨w.heap.size,0,none⟩=some (.string (bs pa)):=by rw[←hw1];simp[go_sem]
 have k1:w1.cell? ⟨w.heap.size,1,none⟩=some (.string (bs pb)):=by rw[←hw1];simp[go_sem]
 have hs1:w1.heap.size=w.heap.size+1:=by rw[←hw1];simp
 have HAW:=Lh (awake_any w1 (by obtain⟨mx,hm⟩:=hmax;exact⟨mx,hE1.keep l00 hm⟩) (by omega))
 have HMD:=Lh fun W (hE:Ext w1 W)=>made_any l hb hll docs hcnt p vl vd W ((hvl.ext hE1).ext hE) ((hvd.ext hE1).ext hE)
 obtain⟨la,lc,rfl,_,_⟩:=hvl.count z_rule (by omega)
 have HE1:=Lh (And.intro hE1 (And.intro hmax l00))
 clear hcnt hvl hvd hb hE1 hmax l00
 go_enter Tryz.func5,Tryz.ntmps5
 go_wp2_with fail
 clear hw1
 refine HAW.out.mono ?_
 rintro e w2 ⟨rfl,hX2⟩
 have HM2:=Lh (HMD.out w2 hX2)
 have lg:w.heap.size< w1.heap.size:=by omega
 have m0:=hX2.keep lg k0
 have m1:=hX2.keep lg k1
 have lg2:w.heap.size< w2.heap.size:=Nat.lt_of_lt_of_le lg hX2.size
 have HX2:=Lh hX2
 clear HAW HMD hX2 hs1 lg k0 k1
 go_wp2_with fail
 refine HM2.out.mono ?_
 rintro e w3 ⟨⟨b,last,n,k,v,pq,c,ta,kc,vc,pc,cc,tn,tc,rfl,hM⟩,hX3⟩
 have HM:=Lh hM
 have q0:=hX3.keep lg2 m0
 have q1:=hX3.keep lg2 m1
 have lg3:w.heap.size< w3.heap.size:=Nat.lt_of_lt_of_le lg2 hX3.size
 obtain⟨w4,hw4⟩:∃X,w3.alloc (.cells #[.int .i64 0,.string ⟨#[]⟩,.slice none 0 0,.slice none 0 0,.slice none 0 0,.slice none 0 0] 34)=X:=⟨_,rfl⟩
 have hX4:Ext w3 w4:=by rw[←hw4];exact(Ext.refl _).alloc _
 have hz4:Z6 w4 w3.heap.size:=by
  rw[←hw4]
  exact⟨by simp,by simp[go_sem],by simp[go_sem],by simp[go_sem],by simp[go_sem],by simp[go_sem],by simp[go_sem],by simp[go_sem],by simp[go_sem],by simp[go_sem],by simp[go_sem],by simp[go_sem],by simp[go_sem]⟩
 have HX3:=Lh (And.intro (HE1.out.1.trans (HX2.out.trans hX3)) (And.intro hX4 hz4))
 clear HM2 hM hX3 HX2 hX4 m0 m1 lg2 hz4
 obtain⟨u0,c0⟩:∃u,w4.cell? ⟨w3.heap.size,0,none⟩=some u:=⟨_,HX3.out.2.2.c0⟩
 obtain⟨u1,c1⟩:∃u,w4.cell? ⟨w3.heap.size,1,none⟩=some u:=⟨_,HX3.out.2.2.c1⟩
 obtain⟨u2,c2⟩:∃u,w4.cell? ⟨w3.heap.size,2,none⟩=some u:=⟨_,HX3.out.2.2.c2⟩
 obtain⟨u3,c3⟩:∃u,w4.cell? ⟨w3.heap.size,3,none⟩=some u:=⟨_,HX3.out.2.2.c3⟩
 obtain⟨u4,c4⟩:∃u,w4.cell? ⟨w3.heap.size,4,none⟩=some u:=⟨_,HX3.out.2.2.c4⟩
 obtain⟨u5,c5⟩:∃u,w4.cell? ⟨w3.heap.size,5,none⟩=some u:=⟨_,HX3.out.2.2.c5⟩
 have f0:=HX3.out.2.2.f0;have f1:=HX3.out.2.2.f1;have f2:=HX3.out.2.2.f2;have f3:=HX3.out.2.2.f3;have f4:=HX3.out.2.2.f4;have f5:=HX3.out.2.2.f5
 obtain⟨gb,hgb⟩:∃g,w3.heap.size=g:=⟨_,rfl⟩
 rw[hgb]at c0 c1 c2 c3 c4 c5 f0 f1 f2 f3 f4 f5 HX3
 have lgb:w.heap.size≠gb:=by omega
 have HG:=Lh hgb
 obtain⟨w5,hw5⟩:∃X,(((((w4.setCell ⟨gb,0,none⟩ (.int .i64 last)).setCell ⟨gb,1,none⟩ (.string (bs n.name))).setCell ⟨gb,2,none⟩ (.slice k n.key.length kc)).setCell ⟨gb,3,none⟩ (.slice v n.vers.length vc)).setCell ⟨gb,4,none⟩ (.slice pq n.parts.length pc)).setCell ⟨gb,5,none⟩ (.slice c n.kids.length cc)=X:=⟨_,rfl⟩
 have hX35:Ext w3 w5:=by
  rw[←hw5]
  exact(((((HX3.out.2.1.set (p:=⟨gb,0,none⟩) (Nat.le_of_eq hgb) _).set (p:=⟨gb,1,none⟩) (Nat.le_of_eq hgb) _).set (p:=⟨gb,2,none⟩) (Nat.le_of_eq hgb) _).set (p:=⟨gb,3,none⟩) (Nat.le_of_eq hgb) _).set (p:=⟨gb,4,none⟩) (Nat.le_of_eq hgb) _).set (p:=⟨gb,5,none⟩) (Nat.le_of_eq hgb) _
 obtain⟨d0,d1,d2,d3,d4,d5⟩:=six_cells _ _ _ _ _ _ HX3.out.2.2 hw5
 have r0:=hX35.keep lg3 q0
 have r1:=hX35.keep lg3 q1
 have HX5:=Lh (And.intro (HX3.out.1.trans hX35) hX35)
 have lg5:w.heap.size< w5.heap.size:=Nat.lt_of_lt_of_le lg3 hX35.size
 clear lg3 hX35 HX3 q0 q1
 cases b with
 | false=>
  go_wp2_with fail
  go_ret
  exact⟨rfl,HX5.out.1⟩
 | true=>
  obtain⟨N,T,hlast,hok,hPS,hT12,rfl,hTl,hok4,htv,hk,hv,hpa,hc⟩:=HM.out rfl
  obtain⟨PS,hPSn⟩:∃X,psT T 0=X:=⟨_,rfl⟩
  have HPB:=Lh (psA_b hok N (Nat.le_refl _))
  rw[hPS,hPSn]at HPB
  have hPSa:psA n N=PS:=hPS.trans hPSn
  have HNEW:=Lh fun W (hE:Ext w5 W)=>xnew_any n N last hlast hok (fun _=>True) la l.length lc k v pq c kc vc pc cc W (hk.ext (HX5.out.2.trans hE)) (hv.ext (HX5.out.2.trans hE)) (hpa.ext (HX5.out.2.trans hE)) (hc.ext (HX5.out.2.trans hE))
  rw[hPSa]at HNEW
  have HTV:=Lh (And.intro (htv.ext HX5.out.2) (And.intro hT12 (And.intro hTl hok4)))
  have HPSn:=Lh hPSn
  clear hlast hok hPS hTl hok4 htv hk hv hpa hc HM hPSa hPSn hT12
  have hwr:wrap64 (((bs pa).size:Int)+((bs pb).size:Int))=((pa.length+pb.length:Nat):Int):=by
   rw[bs_size,bs_size,w64_in _ (by omega)]
   omega
  by_cases hsum:pa.length+pb.length≤1000
  ·
   have hg:¬(1000:Int)< wrap64 (((bs pa).size:Int)+((bs pb).size:Int)):=by rw[hwr];omega
   have hg':=decide_eq_false hg
   clear hwr
   go_wp2_with fail
   refine(HNEW.out w5 (Ext.refl _)).mono ?_
   rintro e w6 ⟨⟨bx,rfl,hI⟩,hX6⟩
   have HI:=Lh hI
   have HX6:=Lh hX6
   have HL6:Hid (PS.length≤1000000):=Lh (by have h:=psT_len T 0 (fun t ht=>by have:=HTV.out.2.2.1 t ht;omega);rw[HPSn.out]at h;have:=HTV.out.2.1;omega)
   have n0:=hX6.keep lg5 r0;have n1:=hX6.keep lg5 r1
   have lg6:w.heap.size< w6.heap.size:=Nat.lt_of_lt_of_le lg5 hX6.size
   have HXW:=Lh (HX5.out.1.trans hX6)
   have HPX:=Lh (And.intro (fun x hx=>(HPB.out x hx).1) (And.intro (fun x hx=>(HPB.out x hx).2.1) (fun x hx=>(HPB.out x hx).2.2)))
   have HHO:=Lh fun W (hE:Ext w6 W) (tx:Bytes)=>xhold_any _ W bx PS (HI.out.ext hE) HPX.out.1 HPX.out.2.1 tx HPX.out.2.2 HL6.out (by obtain⟨mx,hm⟩:=HE1.out.2.1;exact⟨mx,(HXW.out.trans hE).keep HE1.out.2.2 hm⟩)
   obtain⟨ab,hab⟩:∃l,pa++pb=l:=⟨_,rfl⟩
   have hcat:bs pa++bs pb=bs ab:=by rw[bs_append,hab]
   have hsz:¬9223372036854775807< (bs pa).size+(bs pb).size:=by rw[bs_size,bs_size];omega
   have HAB:=Lh hab
   have HNW:=Lh (HHO.out w6 (Ext.refl _) ab)
   have hPSc:=HPSn
   clear hI hX6 HNEW hg hg' d0 d1 d2 d3 d4 d5 r0 r1 hw4 hw5 lg5 lgb hgb c0 c1 c2 c3 c4 c5 f0 f1 f2 f3 f4 f5 hab hPSc
   go_wp2_with fail
   refine HNW.out.mono ?_
   rintro e w9 ⟨⟨lv,rfl,hlv⟩,hX9⟩
   obtain⟨wa,wc,rfl,hw1,hw2⟩:=hlv.count z_trc (by omega)
   obtain⟨LW,hLW⟩:∃L,tracesL PS (askF 1 0 ab)=L:=⟨_,rfl⟩
   rw[hLW]at hlv hw1⊢
   have m0:=hX9.keep lg6 n0;have m1:=hX9.keep lg6 n1
   have lg9:w.heap.size< w9.heap.size:=Nat.lt_of_lt_of_le lg6 hX9.size
   have HH2:=Lh fun(tx:Bytes) W (hE:Ext w9 W)=>HHO.out W (hX9.trans hE) tx
   have HHA:=Lh fun W (hE:Ext w9 W)=>HH2.out pa W hE
   have HHB:=Lh fun W (hE:Ext w9 W)=>HH2.out pb W hE
   have HHE:=Lh fun W (hE:Ext w9 W)=>HH2.out [] W hE
   have HLV:=Lh (And.intro (hlv.ok (q:=fun _=>True) fun _ _=>trivial) (And.intro hLW (HXW.out.trans hX9)))
   clear HHO HNW hX9 hlv hLW n0 n1 lg6 hcat hsz
   go_wp2_with fail
   refine rg_begin (S:=Sx w9) (by kernel_rfl) (Sx.begin _) ?_
   have hSa:Sx w9 (World.drew w9):=(Sx.begin _)
   refine rg_t 0 (some 50) (.pointer (some ⟨bx,0,none⟩)) rfl hSa (fun w' hs=>by rfl) ?_
   simp only[Act.put,sA,sZ,sS]
   refine rg_t 1 (some 51) (.pointer (some ⟨w.heap.size,0,none⟩)) rfl hSa (fun w' hs=>by first | rfl | go_simp) ?_
   simp only[Act.put,sA,sZ,sS]
   refine rg_t 2 (some 52) (.string (bs pa)) rfl hSa (fun w' hs=>by(have h0:=hs.cell lg9 m0;go_simp)) ?_
   simp only[Act.put,sA,sZ,sS]
   refine rg_t 4 (some 54) (.pointer (some ⟨bx,0,none⟩)) rfl hSa (fun w' hs=>by rfl) ?_
   simp only[Act.put,sA,sZ,sS]
   refine rg_t 5 (some 55) (.pointer (some ⟨w.heap.size,1,none⟩)) rfl hSa (fun w' hs=>by first | rfl | go_simp) ?_
   simp only[Act.put,sA,sZ,sS]
   refine rg_t 6 (some 56) (.string (bs pb)) rfl hSa (fun w' hs=>by(have h0:=hs.cell lg9 m1;go_simp)) ?_
   simp only[Act.put,sA,sZ,sS]
   refine rg_t 8 (some 58) (.pointer (some ⟨bx,0,none⟩)) rfl hSa (fun w' hs=>by rfl) ?_
   simp only[Act.put,sA,sZ,sS]
   refine rg_call 3 (some 53) 14 #[.pointer (some ⟨bx,0,none⟩),.string (bs pa)] rfl rfl (by kernel_rfl) (by rfl) (fun w'=>by first | rfl | go_simp) (R:=fun v w'=>Rep w' (fun _=>True) v (trcsD (tracesL PS (askF 1 0 pa)))∧Ext (World.drew w9) w') ?_ ?_
   ·
    refine(HHA.out (World.drew w9) hSa).mono ?_
    rintro e w' ⟨⟨sv,rfl,hsv⟩,hB⟩
    exact⟨_,rfl,hsv.ok (fun _ _=>trivial),hB⟩
   rintro xa wra1 ⟨hxa,hBra1⟩
   have hSa1:=hSa.ext hBra1
   refine⟨hSa1,?_⟩
   simp only[Act.put,sA,sZ,sS]
   refine rg_call 7 (some 57) 14 #[.pointer (some ⟨bx,0,none⟩),.string (bs pb)] rfl rfl (by kernel_rfl) (by rfl) (fun w'=>by first | rfl | go_simp) (R:=fun v w'=>Rep w' (fun _=>True) v (trcsD (tracesL PS (askF 1 0 pb)))∧Ext wra1 w') ?_ ?_
   ·
    refine(HHB.out wra1 hSa1).mono ?_
    rintro e w' ⟨⟨sv,rfl,hsv⟩,hB⟩
    exact⟨_,rfl,hsv.ok (fun _ _=>trivial),hB⟩
   rintro xb wra2 ⟨hxb,hBra2⟩
   have hSa2:=hSa1.ext hBra2
   refine⟨hSa2,?_⟩
   simp only[Act.put,sA,sZ,sS]
   refine rg_call 9 (some 59) 14 #[.pointer (some ⟨bx,0,none⟩),.string {data:= #[]}] rfl rfl (by kernel_rfl) (by rfl) (fun w'=>by first | rfl | go_simp) (R:=fun v w'=>Rep w' (fun _=>True) v (trcsD (tracesL PS (askF 1 0 [])))∧Ext wra2 w') ?_ ?_
   ·
    refine(HHE.out wra2 hSa2).mono ?_
    rintro e w' ⟨⟨sv,rfl,hsv⟩,hB⟩
    exact⟨_,rfl,hsv.ok (fun _ _=>trivial),hB⟩
   rintro xe wra3 ⟨hxe,hBra3⟩
   have hSa3:=hSa2.ext hBra3
   refine⟨hSa3,?_⟩
   simp only[Act.put,sA,sZ,sS]
   obtain⟨a0,b0,rfl,_,_⟩:=hxa.count z_trc (by omega)
   obtain⟨a1,b1,rfl,_,_⟩:=hxb.count z_trc (by omega)
   obtain⟨a2,b2,rfl,_,_⟩:=hxe.count z_trc (by omega)
   refine rg_one 10 (by kernel_rfl) ?_
   refine tk_new 10 (some 60) (.cells #[.slice a0 (tracesL PS (askF 1 0 pa)).length b0,.slice a1 (tracesL PS (askF 1 0 pb)).length b1,.slice a2 (tracesL PS (askF 1 0 [])).length b2] 45) (fun n=> .slice (some ⟨n,0,none⟩) 3 3) rfl rfl (by rfl) (by first | rfl | go_simp) ?_
   intro gq xg eg hxg hzg hC
   have hSg:Sx w9 xg:=hSa3.ext hxg
   refine⟨hSg,?_⟩
   simp only[Act.put,sA,sZ,sS]
   refine rg_t 11 (some 12) (.slice (some ⟨gq,0,none⟩) 3 3) rfl hSg (fun w' hs=>by rfl) ?_
   simp only[Act.put,sA,sZ,sS]
   refine rg_done (by kernel_rfl) ?_
   have hE9:Ext w9 xg:=hSg
   have zc:∀j:Nat,j< 3→∃(c:Bytes) (a:Option Addr) (cp:Nat),xg.cell? ⟨gq,j,none⟩=some (.slice a (tracesL PS (askF 1 0 c)).length cp)∧Rep xg (fun _=>True) (.slice a (tracesL PS (askF 1 0 c)).length cp) (trcsD (tracesL PS (askF 1 0 c)))∧∀m,askF 1 0 ab m=true→askF 1 0 c m=true:=fun j hj=>by
    match j,hj with
    | 0,_=>exact⟨pa,a0,b0,blk_cell hC rfl,((hxa.ext hBra2).ext hBra3).ext hxg,ask_imp fun x hx=>by rw[←HAB.out]at hx;exact hasP_left x pa pb hx⟩
    | 1,_=>exact⟨pb,a1,b1,blk_cell hC rfl,(hxb.ext hBra3).ext hxg,ask_imp fun x hx=>by rw[←HAB.out]at hx;exact hasP_right x pa pb hx⟩
    | 2,_=>exact⟨[],a2,b2,blk_cell hC rfl,hxe.ext hxg,ask_imp fun x _=>hasP_nil x⟩
   have HZ:=Lh zc
   have lgq:gq< xg.heap.size:=blk_lt hC
   have HWV:=Lh (HLV.out.1.ext hE9)
   have HXG:=Lh (HLV.out.2.2.trans hE9)
   have HLW:=Lh HLV.out.2.1
   have hwl:LW.length≤9223372036854775807:=by omega
   have hNW:∀i:Nat,i< LW.length→(i:Int)+1≤9223372036854775807:=fun i hi=>by omega
   clear hw1 hw2 zc hE9 hxa hxb hxe hBra1 hBra2 hBra3 hSa1 hSa2 hSa3 hSa hSg hxg hzg hC eg HLV m0 m1 lg9 HHA HHB HHE HH2 HAB
   go_wp2_with fail
   go_loopw [13] (fun t wr=>∃i:Nat,t= .int .i64 i∧i≤LW.length∧Hid (Ext xg wr)) (fun t _=>downV LW.length t)
   case atStart=>exact⟨0,rfl,Nat.zero_le _,Lh (Ext.refl _)⟩
   case round=>
    obtain⟨i,rfl,hi,HX⟩:=hrel
    have hi0:(0:Int)≤(i:Int):=by omega
    by_cases hlt:i< LW.length
    ·
     have hlI:(i:Int)< (LW.length:Int):=by omega
     obtain⟨x,hx⟩:∃x,LW[i]=x:=⟨_,rfl⟩
     have HXM:=Lh (show x∈tracesL PS (askF 1 0 ab) by rw[HLW.out,←hx];exact List.getElem_mem hlt)
     have HXE:=Lh hx
     clear hx
     obtain⟨wo1,hwo1⟩:∃W,W=wr:=⟨_,rfl⟩
     subst hwo1
     go_wp2_with fail
     go_loopw [14] (fun t wr=>∃j:Nat,t= .int .i64 j∧j≤3∧Hid (Ext xg wr)) (fun t _=>downV 3 t)
     case atStart=>exact⟨0,rfl,by omega,HX⟩
     case round=>
      clear HX
      obtain⟨j,rfl,hj,HX⟩:=hrel
      have hj0:(0:Int)≤(j:Int):=by omega
      by_cases hltj:j< 3
      ·
       have hljI:(j:Int)< 3:=by omega
       obtain⟨c,ca,cp,z1,hcr,himp⟩:=HZ.out j hltj
       obtain⟨LC,hLC⟩:∃L,tracesL PS (askF 1 0 c)=L:=⟨_,rfl⟩
       rw[hLC]at z1 hcr
       have HC:=Lh (And.intro hcr (And.intro himp hLC))
       have HZC:=Lh z1
       replace z1:=HX.out.keep lgq z1
       have hLCl:LC.length≤9223372036854775807:=by
        obtain⟨_,_,_,e,_,h1,h2,_⟩:=hcr.slice
        cases e
        omega
       clear hcr himp hLC
       obtain⟨wo2,hwo2⟩:∃W,W=wr:=⟨_,rfl⟩
       subst hwo2
       go_wp2_with fail
       go_loopw [15,16] (fun th t wr=>∃k:Nat,t= .int .i64 k∧k≤LC.length∧th= .bool ((LC.take k).any fun y=>decide (y.p=x.p))∧Hid (Ext xg wr)) (fun _ t _=>downV LC.length t)
       case atStart=>exact⟨0,rfl,Nat.zero_le _,rfl,HX⟩
       case round=>
        clear HX z1
        obtain⟨k,rfl,hk,rfl,HX⟩:=hrel
        have hk0:(0:Int)≤(k:Int):=by omega
        have z1:=HX.out.keep lgq HZC.out
        by_cases hltk:k< LC.length
        ·
         have hlkI:(k:Int)< (LC.length:Int):=by omega
         obtain⟨y,hy⟩:∃y,LC[k]=y:=⟨_,rfl⟩
         have hany:(LC.take (k+1)).any (fun y=>decide (y.p=x.p))=((LC.take k).any (fun y=>decide (y.p=x.p)) || decide (y.p=x.p)):=by
          rw[List.take_succ_eq_append_getElem hltk,List.any_append,hy];simp
         have HYM:=Lh (show y∈tracesL PS (askF 1 0 c) by rw[HC.out.2.2,←hy];exact List.getElem_mem hltk)
         obtain⟨wb,wo,xv,rfl,lwb,_,x0,x1,hxs⟩:=trc_at HWV.out i hlt
         obtain⟨cb,co,yv,rfl,lcb,_,y0,y1,hys⟩:=trc_at HC.out.1 k hltk
         rw[HXE.out]at x0 hxs
         rw[hy]at y0 hys
         obtain⟨xa,xn,xc,rfl,_⟩:=hxs.slice
         obtain⟨ya,yn,yc,rfl,_⟩:=hys.slice
         have HIN:=Lh fun(e:y.p=x.p) W (hE:Ext wr W)=>within_any x.s y.s (trace_in HC.out.2.1 HXM.out HYM.out e).1 (trace_in HC.out.2.1 HXM.out HYM.out e).2.1 (trace_in HC.out.2.1 HXM.out HYM.out e).2.2.1 _ _ _ _ W (trace_in HC.out.2.1 HXM.out HYM.out e).2.2.2 (hxs.ext (HX.out.trans hE)) (hys.ext (HX.out.trans hE))
         replace x0:=HX.out.keep lwb x0;replace x1:=HX.out.keep lwb x1;replace y0:=HX.out.keep lcb y0;replace y1:=HX.out.keep lcb y1
         replace lwb:=Nat.lt_of_lt_of_le lwb HX.out.size
         replace lcb:=Nat.lt_of_lt_of_le lcb HX.out.size
         have lgq1:=Nat.lt_of_lt_of_le lgq HX.out.size
         obtain⟨th,hth⟩:∃b,(LC.take k).any (fun y=>decide (y.p=x.p))=b:=⟨_,rfl⟩
         rw[hth]at hany⊢
         have HANY:=Lh hany
         clear hany hth hys hxs hy
         cases th with
         | true=>
          go_wp2_with fail
          refine rg_begin (S:=Sx wr) (by kernel_rfl) (Sx.begin _) ?_
          have hSa:Sx wr (World.drew wr):=(Sx.begin _)
          refine rg_t 0 (some 82) (.bool true) rfl hSa (fun w' hs=>by rfl) ?_
          simp only[Act.put,sA,sZ,sS]
          refine rg_t 1 (some 83) (.bool true) rfl hSa (fun w' hs=>by rfl) ?_
          simp only[Act.put,sA,sZ,sS]
          refine rg_s 2 (some 84) rfl hSa ?_
          simp only[Act.put,sA,sZ,sS]
          refine rg_s 3 (some 85) rfl hSa ?_
          simp only[Act.put,sA,sZ,sS]
          refine rg_s 4 (some 86) rfl hSa ?_
          simp only[Act.put,sA,sZ,sS]
          refine rg_s 5 (some 87) rfl hSa ?_
          simp only[Act.put,sA,sZ,sS]
          refine rg_s 6 (some 88) rfl hSa ?_
          simp only[Act.put,sA,sZ,sS]
          refine rg_s 7 (some 89) rfl hSa ?_
          simp only[Act.put,sA,sZ,sS]
          refine rg_s 8 (some 90) rfl hSa ?_
          simp only[Act.put,sA,sZ,sS]
          refine rg_s 9 (some 91) rfl hSa ?_
          simp only[Act.put,sA,sZ,sS]
          refine rg_s 10 (some 92) rfl hSa ?_
          simp only[Act.put,sA,sZ,sS]
          refine rg_s 11 (some 93) rfl hSa ?_
          simp only[Act.put,sA,sZ,sS]
          refine rg_s 12 (some 94) rfl hSa ?_
          simp only[Act.put,sA,sZ,sS]
          refine rg_s 13 (some 95) rfl hSa ?_
          simp only[Act.put,sA,sZ,sS]
          refine rg_s 14 (some 96) rfl hSa ?_
          simp only[Act.put,sA,sZ,sS]
          refine rg_s 15 (some 97) rfl hSa ?_
          simp only[Act.put,sA,sZ,sS]
          refine rg_s 16 (some 98) rfl hSa ?_
          simp only[Act.put,sA,sZ,sS]
          refine rg_s 17 (some 99) rfl hSa ?_
          simp only[Act.put,sA,sZ,sS]
          refine rg_s 18 (some 100) rfl hSa ?_
          simp only[Act.put,sA,sZ,sS]
          refine rg_s 19 (some 101) rfl hSa ?_
          simp only[Act.put,sA,sZ,sS]
          refine rg_s 20 (some 102) rfl hSa ?_
          simp only[Act.put,sA,sZ,sS]
          refine rg_s 21 (some 103) rfl hSa ?_
          simp only[Act.put,sA,sZ,sS]
          refine rg_s 22 (some 104) rfl hSa ?_
          simp only[Act.put,sA,sZ,sS]
          refine rg_s 23 (some 105) rfl hSa ?_
          simp only[Act.put,sA,sZ,sS]
          refine rg_s 24 (some 106) rfl hSa ?_
          simp only[Act.put,sA,sZ,sS]
          refine rg_s 25 (some 107) rfl hSa ?_
          simp only[Act.put,sA,sZ,sS]
          refine rg_s 26 (some 108) rfl hSa ?_
          simp only[Act.put,sA,sZ,sS]
          refine rg_s 27 (some 109) rfl hSa ?_
          simp only[Act.put,sA,sZ,sS]
          refine rg_s 28 (some 110) rfl hSa ?_
          simp only[Act.put,sA,sZ,sS]
          refine rg_s 29 (some 111) rfl hSa ?_
          simp only[Act.put,sA,sZ,sS]
          refine rg_s 30 (some 112) rfl hSa ?_
          simp only[Act.put,sA,sZ,sS]
          refine rg_s 31 (some 113) rfl hSa ?_
          simp only[Act.put,sA,sZ,sS]
          refine rg_t 32 (some 114) (.bool true) rfl hSa (fun w' hs=>by rfl) ?_
          simp only[Act.put,sA,sZ,sS]
          refine rg_t 33 (some 15) (.bool true) rfl hSa (fun w' hs=>by rfl) ?_
          simp only[Act.put,sA,sZ,sS]
          refine rg_done (by kernel_rfl) ?_
          go_wp2_with fail
          go_roundw
          case rel=>exact⟨k+1,by go_num,by omega,by rw[HANY.out,Bool.true_or],Lh HX.out.drew⟩
          case measure=>simp only[downV];omega
         | false=>
          by_cases hpe:y.p=x.p
          ·
           have hbe:(y.p==x.p)=true:=beq_iff_eq.2 hpe
           have HIE:=Lh (HIN.out hpe)
           clear HIN
           have HIN:=HIE
           have HPE:=Lh (And.intro hpe hbe)
           clear hpe HIE hbe
           go_wp2_with fail
           have hbe:=HPE.out.2
           refine rg_begin (S:=Sx wr) (by kernel_rfl) (Sx.begin _) ?_
           have hSc:Sx wr (World.drew wr):=(Sx.begin _)
           refine rg_t 0 (some 82) (.bool false) rfl hSc (fun w' hs=>by rfl) ?_
           simp only[Act.put,sA,sZ,sS]
           refine rg_t 1 (some 83) (.bool false) rfl hSc (fun w' hs=>by rfl) ?_
           simp only[Act.put,sA,sZ,sS]
           refine rg_t 2 (some 84) (.slice (some ⟨gq,0,none⟩) 3 3) rfl hSc (fun w' hs=>by rfl) ?_
           simp only[Act.put,sA,sZ,sS]
           refine rg_t 3 (some 85) (.int .i64 j) rfl hSc (fun w' hs=>by rfl) ?_
           simp only[Act.put,sA,sZ,sS]
           refine rg_t 4 (some 86) (.pointer (some ⟨gq,0+j,none⟩)) rfl hSc (fun w' hs=>by first | rfl | go_simp) ?_
           simp only[Act.put,sA,sZ,sS]
           refine rg_t 5 (some 87) (.slice (some ⟨cb,co,none⟩) LC.length cp) rfl hSc (fun w' hs=>by(have h0:=hs.cell lgq1 z1;go_simp)) ?_
           simp only[Act.put,sA,sZ,sS]
           refine rg_t 6 (some 88) (.int .i64 k) rfl hSc (fun w' hs=>by rfl) ?_
           simp only[Act.put,sA,sZ,sS]
           refine rg_t 7 (some 89) (.pointer (some ⟨cb,co+k*2,none⟩)) rfl hSc (fun w' hs=>by first | rfl | go_simp) ?_
           simp only[Act.put,sA,sZ,sS]
           refine rg_t 8 (some 90) (.pointer (some ⟨cb,co+k*2,none⟩)) rfl hSc (fun w' hs=>by first | rfl | go_simp) ?_
           simp only[Act.put,sA,sZ,sS]
           refine rg_t 9 (some 91) (.string (bs y.p)) rfl hSc (fun w' hs=>by(have h0:=hs.cell lcb y0;go_simp)) ?_
           simp only[Act.put,sA,sZ,sS]
           refine rg_t 10 (some 92) (.slice (some ⟨wb,wo,none⟩) LW.length wc) rfl hSc (fun w' hs=>by rfl) ?_
           simp only[Act.put,sA,sZ,sS]
           refine rg_t 11 (some 93) (.int .i64 i) rfl hSc (fun w' hs=>by rfl) ?_
           simp only[Act.put,sA,sZ,sS]
           refine rg_t 12 (some 94) (.pointer (some ⟨wb,wo+i*2,none⟩)) rfl hSc (fun w' hs=>by first | rfl | go_simp) ?_
           simp only[Act.put,sA,sZ,sS]
           refine rg_t 13 (some 95) (.pointer (some ⟨wb,wo+i*2,none⟩)) rfl hSc (fun w' hs=>by first | rfl | go_simp) ?_
           simp only[Act.put,sA,sZ,sS]
           refine rg_t 14 (some 96) (.string (bs x.p)) rfl hSc (fun w' hs=>by(have h0:=hs.cell lwb x0;go_simp)) ?_
           simp only[Act.put,sA,sZ,sS]
           refine rg_t 15 (some 97) (.bool true) rfl hSc (fun w' hs=>by exact exec_seql rfl rfl rfl (hbe) _) ?_
           simp only[Act.put,sA,sZ,sS]
           refine rg_t 16 (some 98) (.bool true) rfl hSc (fun w' hs=>by rfl) ?_
           simp only[Act.put,sA,sZ,sS]
           refine rg_t 17 (some 99) (.slice (some ⟨wb,wo,none⟩) LW.length wc) rfl hSc (fun w' hs=>by rfl) ?_
           simp only[Act.put,sA,sZ,sS]
           refine rg_t 18 (some 100) (.int .i64 i) rfl hSc (fun w' hs=>by rfl) ?_
           simp only[Act.put,sA,sZ,sS]
           refine rg_t 19 (some 101) (.pointer (some ⟨wb,wo+i*2,none⟩)) rfl hSc (fun w' hs=>by first | rfl | go_simp) ?_
           simp only[Act.put,sA,sZ,sS]
           refine rg_t 20 (some 102) (.pointer (some ⟨wb,wo+i*2+1,none⟩)) rfl hSc (fun w' hs=>by first | rfl | go_simp) ?_
           simp only[Act.put,sA,sZ,sS]
           refine rg_t 21 (some 103) (.slice xa xn xc) rfl hSc (fun w' hs=>by(have h0:=hs.cell lwb x1;go_simp)) ?_
           simp only[Act.put,sA,sZ,sS]
           refine rg_t 22 (some 104) (.slice (some ⟨gq,0,none⟩) 3 3) rfl hSc (fun w' hs=>by rfl) ?_
           simp only[Act.put,sA,sZ,sS]
           refine rg_t 23 (some 105) (.int .i64 j) rfl hSc (fun w' hs=>by rfl) ?_
           simp only[Act.put,sA,sZ,sS]
           refine rg_t 24 (some 106) (.pointer (some ⟨gq,0+j,none⟩)) rfl hSc (fun w' hs=>by first | rfl | go_simp) ?_
           simp only[Act.put,sA,sZ,sS]
           refine rg_t 25 (some 107) (.slice (some ⟨cb,co,none⟩) LC.length cp) rfl hSc (fun w' hs=>by(have h0:=hs.cell lgq1 z1;go_simp)) ?_
           simp only[Act.put,sA,sZ,sS]
           refine rg_t 26 (some 108) (.int .i64 k) rfl hSc (fun w' hs=>by rfl) ?_
           simp only[Act.put,sA,sZ,sS]
           refine rg_t 27 (some 109) (.pointer (some ⟨cb,co+k*2,none⟩)) rfl hSc (fun w' hs=>by first | rfl | go_simp) ?_
           simp only[Act.put,sA,sZ,sS]
           refine rg_t 28 (some 110) (.pointer (some ⟨cb,co+k*2+1,none⟩)) rfl hSc (fun w' hs=>by first | rfl | go_simp) ?_
           simp only[Act.put,sA,sZ,sS]
           refine rg_t 29 (some 111) (.slice ya yn yc) rfl hSc (fun w' hs=>by(have h0:=hs.cell lcb y1;go_simp)) ?_
           simp only[Act.put,sA,sZ,sS]
           refine rg_call 30 (some 112) 20 #[.slice xa xn xc,.slice ya yn yc] rfl rfl (by kernel_rfl) (by rfl) (fun w'=>by first | rfl | go_simp) (R:=fun v w'=>v= .bool true∧Ext (World.drew wr) w') ?_ ?_
           ·
            refine(HIN.out (World.drew wr) hSc).mono ?_
            rintro e w' ⟨rfl,h⟩
            exact⟨_,rfl,rfl,h⟩
           rintro _ wrc1 ⟨rfl,hBrc1⟩
           have hSc1:=hSc.ext hBrc1
           refine⟨hSc1,?_⟩
           simp only[Act.put,sA,sZ,sS]
           refine rg_t 31 (some 113) (.bool true) rfl hSc1 (fun w' hs=>by rfl) ?_
           simp only[Act.put,sA,sZ,sS]
           refine rg_t 32 (some 114) (.bool true) rfl hSc1 (fun w' hs=>by rfl) ?_
           simp only[Act.put,sA,sZ,sS]
           refine rg_t 33 (some 15) (.bool true) rfl hSc1 (fun w' hs=>by rfl) ?_
           simp only[Act.put,sA,sZ,sS]
           refine rg_done (by kernel_rfl) ?_
           have HXc:=Lh (HX.out.trans (show Ext wr wrc1 from hSc1))
           clear hbe hSc hSc1 hBrc1
           go_wp2_with fail
           go_roundw
           case rel=>exact⟨k+1,by go_num,by omega,by rw[HANY.out,decide_eq_true HPE.out.1];rfl,HXc⟩
           case measure=>simp only[downV];omega
          ·
           have hbe:(y.p==x.p)=false:=beq_eq_false_iff_ne.2 hpe
           have HPE:=Lh (And.intro hpe hbe)
           clear hpe hbe
           go_wp2_with fail
           have hbe:=HPE.out.2
           refine rg_begin (S:=Sx wr) (by kernel_rfl) (Sx.begin _) ?_
           have hSb:Sx wr (World.drew wr):=(Sx.begin _)
           refine rg_t 0 (some 82) (.bool false) rfl hSb (fun w' hs=>by rfl) ?_
           simp only[Act.put,sA,sZ,sS]
           refine rg_t 1 (some 83) (.bool false) rfl hSb (fun w' hs=>by rfl) ?_
           simp only[Act.put,sA,sZ,sS]
           refine rg_t 2 (some 84) (.slice (some ⟨gq,0,none⟩) 3 3) rfl hSb (fun w' hs=>by rfl) ?_
           simp only[Act.put,sA,sZ,sS]
           refine rg_t 3 (some 85) (.int .i64 j) rfl hSb (fun w' hs=>by rfl) ?_
           simp only[Act.put,sA,sZ,sS]
           refine rg_t 4 (some 86) (.pointer (some ⟨gq,0+j,none⟩)) rfl hSb (fun w' hs=>by first | rfl | go_simp) ?_
           simp only[Act.put,sA,sZ,sS]
           refine rg_t 5 (some 87) (.slice (some ⟨cb,co,none⟩) LC.length cp) rfl hSb (fun w' hs=>by(have h0:=hs.cell lgq1 z1;go_simp)) ?_
           simp only[Act.put,sA,sZ,sS]
           refine rg_t 6 (some 88) (.int .i64 k) rfl hSb (fun w' hs=>by rfl) ?_
           simp only[Act.put,sA,sZ,sS]
           refine rg_t 7 (some 89) (.pointer (some ⟨cb,co+k*2,none⟩)) rfl hSb (fun w' hs=>by first | rfl | go_simp) ?_
           simp only[Act.put,sA,sZ,sS]
           refine rg_t 8 (some 90) (.pointer (some ⟨cb,co+k*2,none⟩)) rfl hSb (fun w' hs=>by first | rfl | go_simp) ?_
           simp only[Act.put,sA,sZ,sS]
           refine rg_t 9 (some 91) (.string (bs y.p)) rfl hSb (fun w' hs=>by(have h0:=hs.cell lcb y0;go_simp)) ?_
           simp only[Act.put,sA,sZ,sS]
           refine rg_t 10 (some 92) (.slice (some ⟨wb,wo,none⟩) LW.length wc) rfl hSb (fun w' hs=>by rfl) ?_
           simp only[Act.put,sA,sZ,sS]
           refine rg_t 11 (some 93) (.int .i64 i) rfl hSb (fun w' hs=>by rfl) ?_
           simp only[Act.put,sA,sZ,sS]
           refine rg_t 12 (some 94) (.pointer (some ⟨wb,wo+i*2,none⟩)) rfl hSb (fun w' hs=>by first | rfl | go_simp) ?_
           simp only[Act.put,sA,sZ,sS]
           refine rg_t 13 (some 95) (.pointer (some ⟨wb,wo+i*2,none⟩)) rfl hSb (fun w' hs=>by first | rfl | go_simp) ?_
           simp only[Act.put,sA,sZ,sS]
           refine rg_t 14 (some 96) (.string (bs x.p)) rfl hSb (fun w' hs=>by(have h0:=hs.cell lwb x0;go_simp)) ?_
           simp only[Act.put,sA,sZ,sS]
           refine rg_t 15 (some 97) (.bool false) rfl hSb (fun w' hs=>by exact exec_seql rfl rfl rfl (hbe) _) ?_
           simp only[Act.put,sA,sZ,sS]
           refine rg_t 16 (some 98) (.bool false) rfl hSb (fun w' hs=>by rfl) ?_
           simp only[Act.put,sA,sZ,sS]
           refine rg_s 17 (some 99) rfl hSb ?_
           simp only[Act.put,sA,sZ,sS]
           refine rg_s 18 (some 100) rfl hSb ?_
           simp only[Act.put,sA,sZ,sS]
           refine rg_s 19 (some 101) rfl hSb ?_
           simp only[Act.put,sA,sZ,sS]
           refine rg_s 20 (some 102) rfl hSb ?_
           simp only[Act.put,sA,sZ,sS]
           refine rg_s 21 (some 103) rfl hSb ?_
           simp only[Act.put,sA,sZ,sS]
           refine rg_s 22 (some 104) rfl hSb ?_
           simp only[Act.put,sA,sZ,sS]
           refine rg_s 23 (some 105) rfl hSb ?_
           simp only[Act.put,sA,sZ,sS]
           refine rg_s 24 (some 106) rfl hSb ?_
           simp only[Act.put,sA,sZ,sS]
           refine rg_s 25 (some 107) rfl hSb ?_
           simp only[Act.put,sA,sZ,sS]
           refine rg_s 26 (some 108) rfl hSb ?_
           simp only[Act.put,sA,sZ,sS]
           refine rg_s 27 (some 109) rfl hSb ?_
           simp only[Act.put,sA,sZ,sS]
           refine rg_s 28 (some 110) rfl hSb ?_
           simp only[Act.put,sA,sZ,sS]
           refine rg_s 29 (some 111) rfl hSb ?_
           simp only[Act.put,sA,sZ,sS]
           refine rg_s 30 (some 112) rfl hSb ?_
           simp only[Act.put,sA,sZ,sS]
           refine rg_t 31 (some 113) (.bool false) rfl hSb (fun w' hs=>by rfl) ?_
           simp only[Act.put,sA,sZ,sS]
           refine rg_t 32 (some 114) (.bool false) rfl hSb (fun w' hs=>by rfl) ?_
           simp only[Act.put,sA,sZ,sS]
           refine rg_t 33 (some 15) (.bool false) rfl hSb (fun w' hs=>by rfl) ?_
           simp only[Act.put,sA,sZ,sS]
           refine rg_done (by kernel_rfl) ?_
           clear hbe
           go_wp2_with fail
           go_roundw
           case rel=>exact⟨k+1,by go_num,by omega,by rw[HANY.out,decide_eq_false HPE.out.1];rfl,Lh HX.out.drew⟩
           case measure=>simp only[downV];omega
        ·
         have hlkI:¬(k:Int)< (LC.length:Int):=by omega
         have hth:(LC.take k).any (fun y=>decide (y.p=x.p))=true:=by
          obtain⟨y,hy,e⟩:=trace_sub HC.out.2.1 HXM.out
          rw[HC.out.2.2]at hy
          rw[List.take_of_length_le (by omega),List.any_eq_true]
          exact⟨y,hy,decide_eq_true e⟩
         rw[hth]
         clear hth
         go_wp2_with fail
         go_roundw
         case rel=>exact⟨j+1,by go_num,by omega,HX⟩
         case measure=>simp only[downV];omega
      ·
       have hljI:¬(j:Int)< 3:=by omega
       go_wp2_with fail
       go_roundw
       case rel=>exact⟨i+1,by go_num,by omega,HX⟩
       case measure=>simp only[downV];omega
    ·
     have hlI:¬(i:Int)< (LW.length:Int):=by omega
     have HF:=Lh (HXG.out.trans HX.out)
     go_wp2_with fail
     go_ret
     exact⟨rfl,HF.out⟩
  ·
   have hg:(1000:Int)< wrap64 (((bs pa).size:Int)+((bs pb).size:Int)):=by rw[hwr];omega
   have hg':=decide_eq_true hg
   clear hwr
   go_wp2_with fail
   go_ret
   exact⟨rfl,HX5.out.1⟩
end Go.Proofs.YtngmgjodcnknoaaGreatDoor
