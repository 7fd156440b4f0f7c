/-
 law29:awake. Helper lemmas;no statement of the seat is proved here.
-/
import Derived.Test.YtngmgjodcnknoaaGreatDoorU30
namespace Go.Proofs.YtngmgjodcnknoaaGreatDoor
open Go.RowKit
set_option maxHeartbeats 32000000
set_option maxRecDepth 100000
set_option linter.unusedVariables false
set_option linter.unusedSimpArgs false
def awR:List Rule:= [⟨[[100,98]],[]⟩]
def awD:List Node:= [.mk 1 [100,98] [] [] [],.mk 1 [100,98] [] [⟨[97],[120,121]⟩] []]
theorem awR_ok:RulesOk awR:=by
 intro r hr
 simp only[awR,List.mem_cons,List.not_mem_nil,or_false]at hr
 subst hr
 exact⟨by decide,fun k hk=>(by cases hk)⟩
theorem awD_wf:∀d∈awD,wfN awR d [[100,98]]:=by
 intro d hd
 simp only[awD,List.mem_cons,List.not_mem_nil,or_false]at hd
 have hf:frontS awR [[100,98]]=true:=by decide
 rcases hd with rfl | rfl
 ·
  rw[wfN_eq];exact⟨rfl,fun h=>by rw[hf]at h;cases h⟩
 ·
  rw[wfN_eq];exact⟨rfl,fun h=>by rw[hf]at h;cases h⟩
theorem aw_r1:rowsA 1 (rootP awR [100,98] awD) []= [(1,[100,98],[],[47,100,98])]:=by kernel_rfl
theorem aw_r2:rowsA 2 (rootP awR [100,98] awD) []= [(1,[100,98],[],[47,100,98]),(5,[97],[120,121],[47,100,98,47,64,97])]:=by kernel_rfl
theorem aw_ok:ArOk (rootP awR [100,98] awD) 2:=by
 refine⟨by decide,fun i hi=> ?_,fun i hi r hr=> ?_,fun i hi=> ?_⟩
 ·
  match i,hi with
  | 0,_=>show ahas (rootP awR [100,98] awD).vers 1=true;kernel_rfl
  | 1,_=>show ahas (rootP awR [100,98] awD).vers 2=true;kernel_rfl
 ·
  match i,hi with
  | 0,_=>
   rw[show(((0:Nat):Int)+1)=1 from rfl,aw_r1]at hr
   simp only[List.mem_cons,List.not_mem_nil,or_false]at hr
   subst hr
   exact⟨⟨by decide,by decide,by decide⟩,by decide,by decide⟩
  | 1,_=>
   rw[show(((1:Nat):Int)+1)=2 from rfl,aw_r2]at hr
   simp only[List.mem_cons,List.not_mem_nil,or_false]at hr
   rcases hr with rfl | rfl
   ·
    exact⟨⟨by decide,by decide,by decide⟩,by decide,by decide⟩
   ·
    exact⟨⟨by decide,by decide,by decide⟩,by decide,by decide⟩
 ·
  match i,hi with
  | 0,_=>rw[show(((0:Nat):Int)+1)=1 from rfl,aw_r1];decide
  | 1,_=>rw[show(((1:Nat):Int)+1)=2 from rfl,aw_r2];decide
def awP:List IR:= [(1,6,[],[],[47]),(1,1,[100,98],[],[47,100,98]),(2,6,[],[],[47]),(2,1,[100,98],[],[47,100,98]),(2,5,[97],[120,121],[47,100,98,47,64,97])]
theorem aw_ps:psA (rootP awR [100,98] awD) 2=awP:=by
 rw[psA,psA,psA]
 unfold tabA
 rw[show(((0:Nat):Int)+1)=1 from rfl,show(((1:Nat):Int)+1)=2 from rfl,aw_r1,aw_r2];rfl
theorem aw_n:tracesL awP (askF 0 5 [97])= [⟨[47,100,98,47,64,97],[⟨2,2⟩]⟩]:=by kernel_rfl
theorem aw_y:(tracesL awP (askF 1 0 [121])).length=1:=by kernel_rfl
theorem aw_z:tracesL awP (askF 1 0 [122])= []:=by kernel_rfl
theorem aw_l:(pathsL awP).length=3∧awP.length=5:=⟨by kernel_rfl,rfl⟩
theorem awake_any (w:World) (hmax:∃mx,w.cell? ⟨0,0,none⟩=some (.int .i64 mx)) (l00:0< w.heap.size):Calls Tryz.prog 6 #[] w fun e w'=>e= .returned (.bool true)∧Ext w w':=by
 obtain⟨a1,ha1⟩:∃W,w.alloc (.cells #[.string ⟨#[100,98]⟩] 9)=W:=⟨_,rfl⟩
 have ea1:Ext w a1:=by rw[←ha1];exact(Ext.refl _).alloc _
 have sa1:a1.heap.size=w.heap.size+1:=by rw[←ha1];simp
 have ra1:Rep a1 (fun _=>True) (.slice (some ⟨w.heap.size,0,none⟩) 1 1) (strsD [[100,98]]):=by rw[←ha1];exact rep_lit rfl rfl (by decide) (Reps.cons (Rep.string _ _ (bs [100,98]) (by decide)) (Reps.nil _ _))
 obtain⟨a2,ha2⟩:∃W,a1.alloc (.cells #[.slice (some ⟨w.heap.size,0,none⟩) 1 1,.slice none 0 0] 62)=W:=⟨_,rfl⟩
 have ea2:Ext a1 a2:=by rw[←ha2];exact(Ext.refl _).alloc _
 have sa2:a2.heap.size=w.heap.size+1+1:=by rw[←ha2];simp;rw[sa1]
 have ra2:Rep a2 (fun _=>True) (.slice (some ⟨a1.heap.size,0,none⟩) 1 1) (rulesD awR):=by rw[←ha2];exact rep_lit rfl rfl (by decide) (Reps.cons (ra1) (Reps.cons (.nil 1) (Reps.nil _ _)))
 rw[sa1]at ra2
 obtain⟨a3,ha3⟩:∃W,a2.alloc (.cells #[.string ⟨#[97]⟩,.string ⟨#[120,121]⟩] 68)=W:=⟨_,rfl⟩
 have ea3:Ext a2 a3:=by rw[←ha3];exact(Ext.refl _).alloc _
 have sa3:a3.heap.size=w.heap.size+1+1+1:=by rw[←ha3];simp;rw[sa2]
 have ra3:Rep a3 (fun _=>True) (.slice (some ⟨a2.heap.size,0,none⟩) 1 1) (attrsD [⟨[97],[120,121]⟩]):=by rw[←ha3];exact rep_lit rfl rfl (by decide) (Reps.cons (Rep.string _ _ (bs [97]) (by decide)) (Reps.cons (Rep.string _ _ (bs [120,121]) (by decide)) (Reps.nil _ _)))
 rw[sa2]at ra3
 obtain⟨a4,ha4⟩:∃W,a3.alloc (.cells #[.int .i64 1,.string ⟨#[100,98]⟩,.string ⟨#[]⟩,.slice none 0 0,.slice none 0 0,.int .i64 1,.string ⟨#[100,98]⟩,.string ⟨#[]⟩,.slice (some ⟨w.heap.size+1+1,0,none⟩) 1 1,.slice none 0 0] 66)=W:=⟨_,rfl⟩
 have ea4:Ext a3 a4:=by rw[←ha4];exact(Ext.refl _).alloc _
 have sa4:a4.heap.size=w.heap.size+1+1+1+1:=by rw[←ha4];simp;rw[sa3]
 have ra4:Rep a4 (fun _=>True) (.slice (some ⟨a3.heap.size,0,none⟩) 2 2) (nodesD awD):=by rw[←ha4];exact rep_lit rfl rfl (by decide) (Reps.cons (Rep.int _ _ _ _) (Reps.cons (Rep.string _ _ (bs [100,98]) (by decide)) (Reps.cons (Rep.string _ _ (bs []) (by decide)) (Reps.cons (.nil 2) (Reps.cons (.nil 5) (Reps.cons (Rep.int _ _ _ _) (Reps.cons (Rep.string _ _ (bs [100,98]) (by decide)) (Reps.cons (Rep.string _ _ (bs []) (by decide)) (Reps.cons ra3 (Reps.cons (.nil 5) (Reps.nil _ _)))))))))))
 rw[sa3]at ra4
 have hEa:Ext w a4:=((ea1.trans ea2).trans ea3).trans ea4
 have hR:=(ra2.ext ea3).ext ea4
 have HBU:=Lh (build_any awR [100,98] awR_ok ⟨_,_,rfl⟩ awD (fun _=>True) _ _ a4 (fun d hd=>⟨awD_wf d hd,by simp only[awD,List.mem_cons,List.not_mem_nil,or_false]at hd;rcases hd with rfl | rfl<;> decide⟩) (by decide) hR ra4)
 obtain⟨RT,hRT⟩:∃R,rootP awR [100,98] awD=R:=⟨_,rfl⟩
 have hok:=aw_ok
 have hps:=aw_ps
 rw[hRT]at HBU hok hps
 rw[show((awD.length:Nat):Int)=2 from rfl]at HBU
 have HAW:=Lh (And.intro hok hps)
 clear hRT hok hps
 have HHW:=Lh (And.intro ha1 (And.intro ha2 (And.intro ha3 ha4)))
 have HEA:=Lh hEa
 clear ha1 ha2 ha3 ha4 ra1 ra2 ra3 ra4 ea1 ea2 ea3 ea4 sa1 sa2 sa3 sa4 hR hEa
 go_enter Tryz.func6,Tryz.ntmps6
 go_wp2_with fail
 obtain⟨ha1,ha2,ha3,ha4⟩:=HHW.out
 rw[ha1,ha2,ha3,ha4]
 clear ha1 ha2 ha3 ha4 HHW
 refine HBU.out.mono ?_
 rintro e w2 ⟨⟨k,v,pa,c,kc,vc,pc,cc,rfl,hk,hv,hpa,hc⟩,hX2⟩
 have HNE:=Lh (xnew_any RT 2 2 rfl HAW.out.1 _ (some ⟨w.heap.size+1,0,none⟩) 1 1 k v pa c kc vc pc cc w2 hk hv hpa hc)
 have HX2:=Lh (HEA.out.trans hX2)
 clear HBU hk hv hpa hc hX2
 go_wp2_with fail
 refine HNE.out.mono ?_
 rintro e w3 ⟨⟨bx,rfl,hI⟩,hX3⟩
 rw[HAW.out.2]at hI
 have HI:=Lh (And.intro hI (HX2.out.trans hX3))
 have HPB:=Lh (psA_b HAW.out.1 2 (Nat.le_refl _))
 rw[HAW.out.2]at HPB
 clear HNE hI hX3 HX2
 have HNA:=Lh (xnamed_any _ w3 bx awP HI.out.1 (fun x hx=>(HPB.out x hx).1) (fun x hx=>(HPB.out x hx).2.1) 5 [97] (fun x hx=>(HPB.out x hx).2.2) (by decide))
 rw[aw_n]at HNA
 go_wp2_with fail
 refine HNA.out.mono ?_
 rintro e w4 ⟨⟨lv,rfl,hlv⟩,hX4⟩
 obtain⟨la',lc',rfl,_,_⟩:=hlv.count z_trc (by omega)
 obtain⟨lb,lo,sv,rfl,lgl,_,l0,l1,hsv⟩:=trc_at hlv 0 (by decide)
 obtain⟨sa,sn,sc,rfl,_⟩:=hsv.slice
 rw[show([(⟨[47,100,98,47,64,97],[⟨2,2⟩]⟩:Trc)]).length=1 from rfl]
 replace l0:w4.cell? ⟨lb,lo,none⟩=some (.string (bs [47,100,98,47,64,97])):=by rw[Nat.zero_mul,Nat.add_zero]at l0;exact l0
 replace l1:w4.cell? ⟨lb,lo+1,none⟩=some (.slice sa sn sc):=by rw[Nat.zero_mul,Nat.add_zero]at l1;exact l1
 replace hsv:Rep w4 _ (.slice sa sn sc) (spansD [⟨2,2⟩]):=hsv
 have HI4:=Lh (And.intro (HI.out.1.ext hX4) (And.intro (HI.out.2.trans hX4) hsv))
 have HSZ:=Lh (xsize_any _ w4 bx awP HI4.out.1)
 rw[aw_l.1,aw_l.2]at HSZ
 have hlc1:(1:Nat)≤lc':=by assumption
 have e6:((bs [47,100,98,47,64,97]).toList==([47,100,98,47,64,97]:List UInt8))=true:=by kernel_rfl
 have e7:(bs [47,100,98,47,64,97]).toList=([47,100,98,47,64,97]:List UInt8):=by kernel_rfl
 clear HNA hlv hX4 hsv
 go_wp2_with fail
 refine HSZ.out.mono ?_
 rintro e w5 ⟨rfl,hX5⟩
 have m0:=hX5.keep lgl l0
 have m1:=hX5.keep lgl l1
 have HI5:=Lh (And.intro (HI4.out.1.ext hX5) (And.intro (HI4.out.2.1.trans hX5) (HI4.out.2.2.ext hX5)))
 have HTX:=Lh (text22_any _ _ w5 HI5.out.2.2)
 clear HSZ l0 l1 hX5
 go_wp2_with fail
 refine HTX.out.mono ?_
 rintro e w6 ⟨rfl,hX6⟩
 have HI6:=Lh (And.intro (HI5.out.1.ext hX6) (HI5.out.2.1.trans hX6))
 have HHY:=Lh (xhold_any _ w6 bx awP HI6.out.1 (fun x hx=>(HPB.out x hx).1) (fun x hx=>(HPB.out x hx).2.1) [121] (fun x hx=>(HPB.out x hx).2.2) (by decide) (by obtain⟨mx,hm⟩:=hmax;exact⟨mx,HI6.out.2.keep l00 hm⟩))
 obtain⟨LY,hLY⟩:∃L,tracesL awP (askF 1 0 [121])=L:=⟨_,rfl⟩
 have hyl:=aw_y
 rw[hLY]at HHY hyl
 have e50:((bs [50]).toList==([50]:List UInt8))=true:=by kernel_rfl
 have e51:(bs [50]).toList=([50]:List UInt8):=by kernel_rfl
 clear hX6 HTX hLY m0 m1 e6 e7
 go_wp2_with fail
 refine HHY.out.mono ?_
 rintro e w7 ⟨⟨yv,rfl,hyv⟩,hX7⟩
 obtain⟨ya,yc,rfl,_,_⟩:=hyv.count z_trc (by omega)
 rw[hyl]
 have HI7:=Lh (And.intro (HI6.out.1.ext hX7) (HI6.out.2.trans hX7))
 have HHZ:=Lh (xhold_any _ w7 bx awP HI7.out.1 (fun x hx=>(HPB.out x hx).1) (fun x hx=>(HPB.out x hx).2.1) [122] (fun x hx=>(HPB.out x hx).2.2) (by decide) (by obtain⟨mx,hm⟩:=hmax;exact⟨mx,HI7.out.2.keep l00 hm⟩))
 rw[aw_z]at HHZ
 clear hyv hX7 HHY e50 e51
 go_wp2_with fail
 refine HHZ.out.mono ?_
 rintro e w8 ⟨⟨zv,rfl,hzv⟩,hX8⟩
 obtain⟨za,zc,rfl,_,_⟩:=hzv.count z_trc (by omega)
 rw[show([]:List Trc).length=0 from rfl]
 have HF:=Lh (HI7.out.2.trans hX8)
 clear hzv hX8 HHZ
 go_wp2_with fail
 go_ret
 exact⟨rfl,HF.out⟩
theorem w64_in (n:Int) (h: -9223372036854775808≤n∧n≤9223372036854775807):wrap64 n=n:=by unfold wrap64;omega
theorem six_cells {W X:World} {g:Nat} (v0 v1 v2 v3 v4 v5:Value) (h:Z6 W g)
  (hX:(((((W.setCell ⟨g,0,none⟩ v0).setCell ⟨g,1,none⟩ v1).setCell ⟨g,2,none⟩ v2).setCell ⟨g,3,none⟩ v3).setCell ⟨g,4,none⟩ v4).setCell ⟨g,5,none⟩ v5=X):
  X.cell? ⟨g,0,none⟩=some v0∧X.cell? ⟨g,1,none⟩=some v1∧X.cell? ⟨g,2,none⟩=some v2∧X.cell? ⟨g,3,none⟩=some v3∧X.cell? ⟨g,4,none⟩=some v4∧X.cell? ⟨g,5,none⟩=some v5:=by
 have c0:=h.c0;have c1:=h.c1;have c2:=h.c2;have c3:=h.c3;have c4:=h.c4;have c5:=h.c5
 subst hX
 refine⟨by go_simp,by go_simp,by go_simp,by go_simp,by go_simp,by go_simp⟩
theorem spans_eq (x:List Span) (p q:Nat→Prop) (v u:Value) (w:World) (h:Rep w p v (spansD x)) (k:Rep w q u (spansD x)):
  Calls Tryz.prog 15 #[v,u] w fun e w'=>e= .returned (.bool true)∧Ext w w':=
 (spans_any p q x x v u w h k).mono fun e w' h=>⟨by rw[h.1,(spansS_iff x x).2 rfl],h.2⟩
theorem row_slice {w:World} {base n:Nat} {e:TypeId} {z:Nat} {v:Value} {xs:List Value} (h:w.ownsRow base e z v n xs):∃a c,v= .slice a n c:=by
 rcases h.2 with⟨rfl,rfl⟩ | ⟨g,c,_,rfl,_⟩
 ·
  exact⟨_,_,rfl⟩
 ·
  exact⟨_,_,rfl⟩
theorem tells_walk (l:List Rule) (hb:RulesB l) (hll:l.length≤1048576) (docs:List Node) (hcnt:∀d∈docs,cntN d≤1048576) (kd:Int) (nm pt ph:Bytes) (hnm:nm.length≤1048576) (hpt:pt.length≤1048576) (hph:ph.length≤1048576) (p:Nat→Prop) (vl vd:Value) (w:World) (hvl:Rep w p vl (rulesD l)) (hvd:Rep w p vd (nodesD docs)) (hmax:∃mx,w.cell? ⟨0,0,none⟩=some (.int .i64 mx)) (l00:0< w.heap.size):
  Calls Tryz.prog 3 #[vl,vd,.agg #[.int .i64 kd,.string (bs nm),.string (bs pt),.string (bs ph)]] w fun e w'=>e= .returned (.bool true)∧Ext w w':=by
 obtain⟨w1,hw1⟩:∃X,w.alloc (.cells #[.int .i64 kd,.string (bs nm),.string (bs pt),.string (bs ph)] 25)=X:=⟨_,rfl⟩
 have hE1:Ext w w1:=by rw[←hw1];exact(Ext.refl _).alloc _
 have k0:w1.cell? ⟨w.heap.size,0,none⟩=some (.int .i64 kd):=by rw[←hw1];simp[go_sem]
 have k1:w1.cell? ⟨w.heap.size,1,none⟩=some (.string (bs nm)):=by rw[←hw1];simp[go_sem]
 have k2:w1.cell? ⟨w.heap.size,2,none⟩=some (.string (bs pt)):=by rw[←hw1];simp[go_sem]
 have k3:w1.cell? ⟨w.heap.size,3,none⟩=some (.string (bs ph)):=by rw[←hw1];simp[go_sem]
 have hs1:w1.heap.size=w.heap.size+1:=by rw[←hw1];simp
 have HAW:=Lh (awake_any w1 (by obtain⟨mx,hm⟩:=hmax;exact⟨mx,hE1.keep l00 hm⟩) (by omega))
 have HMD:=Lh fun W (hE:Ext w1 W)=>made_any l hb hll docs hcnt p vl vd W ((hvl.ext hE1).ext hE) ((hvd.ext hE1).ext hE)
 obtain⟨la,lc,rfl,_,_⟩:=hvl.count z_rule (by omega)
 have HE1:=Lh (And.intro hE1 (And.intro hmax l00))
 clear hcnt hvl hvd hb hE1 hmax l00
 go_enter Tryz.func3,Tryz.ntmps3
 go_wp2_with fail
 clear hw1
 refine HAW.out.mono ?_
 rintro e w2 ⟨rfl,hX2⟩
 have HM2:=Lh (HMD.out w2 hX2)
 have lg:w.heap.size< w1.heap.size:=by omega
 have m0:=hX2.keep lg k0
 have m1:=hX2.keep lg k1
 have m2:=hX2.keep lg k2
 have m3:=hX2.keep lg k3
 have lg2:w.heap.size< w2.heap.size:=Nat.lt_of_lt_of_le lg hX2.size
 have HX2:=Lh hX2
 clear HAW HMD hX2 hs1 lg k0 k1 k2 k3
 go_wp2_with fail
 refine HM2.out.mono ?_
 rintro e w3 ⟨⟨b,last,n,k,v,pa,c,ta,kc,vc,pc,cc,tn,tc,rfl,hM⟩,hX3⟩
 have HM:=Lh hM
 have q0:=hX3.keep lg2 m0
 have q1:=hX3.keep lg2 m1
 have q2:=hX3.keep lg2 m2
 have q3:=hX3.keep lg2 m3
 have lg3:w.heap.size< w3.heap.size:=Nat.lt_of_lt_of_le lg2 hX3.size
 obtain⟨w4,hw4⟩:∃X,w3.alloc (.cells #[.int .i64 0,.string ⟨#[]⟩,.slice none 0 0,.slice none 0 0,.slice none 0 0,.slice none 0 0] 34)=X:=⟨_,rfl⟩
 have hX4:Ext w3 w4:=by rw[←hw4];exact(Ext.refl _).alloc _
 have hz4:Z6 w4 w3.heap.size:=by
  rw[←hw4]
  exact⟨by simp,by simp[go_sem],by simp[go_sem],by simp[go_sem],by simp[go_sem],by simp[go_sem],by simp[go_sem],by simp[go_sem],by simp[go_sem],by simp[go_sem],by simp[go_sem],by simp[go_sem],by simp[go_sem]⟩
 have HX3:=Lh (And.intro (HE1.out.1.trans (HX2.out.trans hX3)) (And.intro hX4 hz4))
 clear HM2 hM hX3 HX2 hX4 m0 m1 m2 m3 lg2 hz4
 obtain⟨u0,c0⟩:∃u,w4.cell? ⟨w3.heap.size,0,none⟩=some u:=⟨_,HX3.out.2.2.c0⟩
 obtain⟨u1,c1⟩:∃u,w4.cell? ⟨w3.heap.size,1,none⟩=some u:=⟨_,HX3.out.2.2.c1⟩
 obtain⟨u2,c2⟩:∃u,w4.cell? ⟨w3.heap.size,2,none⟩=some u:=⟨_,HX3.out.2.2.c2⟩
 obtain⟨u3,c3⟩:∃u,w4.cell? ⟨w3.heap.size,3,none⟩=some u:=⟨_,HX3.out.2.2.c3⟩
 obtain⟨u4,c4⟩:∃u,w4.cell? ⟨w3.heap.size,4,none⟩=some u:=⟨_,HX3.out.2.2.c4⟩
 obtain⟨u5,c5⟩:∃u,w4.cell? ⟨w3.heap.size,5,none⟩=some u:=⟨_,HX3.out.2.2.c5⟩
 have f0:=HX3.out.2.2.f0;have f1:=HX3.out.2.2.f1;have f2:=HX3.out.2.2.f2;have f3:=HX3.out.2.2.f3;have f4:=HX3.out.2.2.f4;have f5:=HX3.out.2.2.f5
 obtain⟨gb,hgb⟩:∃g,w3.heap.size=g:=⟨_,rfl⟩
 rw[hgb]at c0 c1 c2 c3 c4 c5 f0 f1 f2 f3 f4 f5 HX3
 have lgb:w.heap.size≠gb:=by omega
 have HG:=Lh hgb
 obtain⟨w5,hw5⟩:∃X,(((((w4.setCell ⟨gb,0,none⟩ (.int .i64 last)).setCell ⟨gb,1,none⟩ (.string (bs n.name))).setCell ⟨gb,2,none⟩ (.slice k n.key.length kc)).setCell ⟨gb,3,none⟩ (.slice v n.vers.length vc)).setCell ⟨gb,4,none⟩ (.slice pa n.parts.length pc)).setCell ⟨gb,5,none⟩ (.slice c n.kids.length cc)=X:=⟨_,rfl⟩
 have hX35:Ext w3 w5:=by
  rw[←hw5]
  exact(((((HX3.out.2.1.set (p:=⟨gb,0,none⟩) (Nat.le_of_eq hgb) _).set (p:=⟨gb,1,none⟩) (Nat.le_of_eq hgb) _).set (p:=⟨gb,2,none⟩) (Nat.le_of_eq hgb) _).set (p:=⟨gb,3,none⟩) (Nat.le_of_eq hgb) _).set (p:=⟨gb,4,none⟩) (Nat.le_of_eq hgb) _).set (p:=⟨gb,5,none⟩) (Nat.le_of_eq hgb) _
 obtain⟨d0,d1,d2,d3,d4,d5⟩:=six_cells _ _ _ _ _ _ HX3.out.2.2 hw5
 have r0:=hX35.keep lg3 q0
 have r1:=hX35.keep lg3 q1
 have r2:=hX35.keep lg3 q2
 have r3:=hX35.keep lg3 q3
 have HX5:=Lh (And.intro (HX3.out.1.trans hX35) hX35)
 have lg5:w.heap.size< w5.heap.size:=Nat.lt_of_lt_of_le lg3 hX35.size
 clear lg3 hX35 HX3 q0 q1 q2 q3
 cases b with
 | false=>
  go_wp2_with fail
  go_ret
  exact⟨rfl,HX5.out.1⟩
 | true=>
  obtain⟨N,T,hlast,hok,hPS,hT12,rfl,hTl,hok4,htv,hk,hv,hpa,hc⟩:=HM.out rfl
  obtain⟨PS,hPSn⟩:∃X,psT T 0=X:=⟨_,rfl⟩
  have HPB:=Lh (psA_b hok N (Nat.le_refl _))
  rw[hPS,hPSn]at HPB
  have hPSa:psA n N=PS:=hPS.trans hPSn
  have HNEW:=Lh fun W (hE:Ext w5 W)=>xnew_any n N last hlast hok (fun _=>True) la l.length lc k v pa c kc vc pc cc W (hk.ext (HX5.out.2.trans hE)) (hv.ext (HX5.out.2.trans hE)) (hpa.ext (HX5.out.2.trans hE)) (hc.ext (HX5.out.2.trans hE))
  rw[hPSa]at HNEW
  have HTV:=Lh (And.intro (htv.ext HX5.out.2) (And.intro hT12 (And.intro hTl hok4)))
  have HPSn:=Lh hPSn
  clear hlast hok hPS hTl hok4 htv hk hv hpa hc HM hPSa hPSn hT12
  have hwr:wrap64 (wrap64 (((bs nm).size:Int)+((bs pt).size:Int))+((bs ph).size:Int))=((nm.length+pt.length+ph.length:Nat):Int):=by
   rw[bs_size,bs_size,bs_size,w64_in ((nm.length:Int)+(pt.length:Int)) (by omega),w64_in _ (by omega)]
   omega
  by_cases hsum:nm.length+pt.length+ph.length≤2000
  ·
   have hg:¬(2000:Int)< wrap64 (wrap64 (((bs nm).size:Int)+((bs pt).size:Int))+((bs ph).size:Int)):=by rw[hwr];omega
   have hg':=decide_eq_false hg
   clear hwr
   go_wp2_with fail
   refine(HNEW.out w5 (Ext.refl _)).mono ?_
   rintro e w6 ⟨⟨bx,rfl,hI⟩,hX6⟩
   have HI:=Lh hI
   have HX6:=Lh hX6
   have HPA:=Lh fun W (hE:Ext w6 W)=>rpaths_any T (by have:=HTV.out.2.1;omega) (fun t ht=>by have:=HTV.out.2.2.1 t ht;omega) HTV.out.2.2.2 _ _ W ((HTV.out.1.ext HX6.out).ext hE)
   rw[HPSn.out]at HPA
   have HSZ:=Lh fun W (hE:Ext w6 W)=>xsize_any _ W bx PS (HI.out.ext hE)
   obtain⟨NP,hNP⟩:∃x,(pathsL PS).length=x:=⟨_,rfl⟩
   obtain⟨NR,hNR⟩:∃x,PS.length=x:=⟨_,rfl⟩
   rw[hNP,hNR]at HPA HSZ
   have HL6:Hid (PS.length≤1000000):=Lh (by have h:=psT_len T 0 (fun t ht=>by have:=HTV.out.2.2.1 t ht;omega);rw[HPSn.out]at h;have:=HTV.out.2.1;omega)
   have HNP:=Lh (And.intro hNP hNR)
   have lg6:w.heap.size< w6.heap.size:=Nat.lt_of_lt_of_le lg5 hX6.size
   have n0:=hX6.keep lg5 r0;have n1:=hX6.keep lg5 r1;have n2:=hX6.keep lg5 r2;have n3:=hX6.keep lg5 r3
   have HW6:=Lh hX6
   clear hI hX6 HNEW hNP hNR hg hg' d0 d1 d2 d3 d4 d5 r0 r1 r2 r3 hw4 hw5 lg5 lgb hgb c0 c1 c2 c3 c4 c5 f0 f1 f2 f3 f4 f5
   go_wp2_with fail
   refine(HPA.out w6 (Ext.refl _)).mono ?_
   rintro e w7 ⟨⟨rv,rfl,hrv⟩,hX7⟩
   obtain⟨ra,rc,rfl⟩:=row_slice hrv
   have HX7:=Lh hX7
   have HX67:=Lh (And.intro HX7.out lg6)
   clear hrv hX7 HPA
   go_wp2_with fail
   refine(HSZ.out w7 HX7.out).mono ?_
   rintro e w9 ⟨rfl,hX9⟩
   have hX69:=HX7.out.trans hX9
   have m0:=hX69.keep lg6 n0;have m1:=hX69.keep lg6 n1;have m2:=hX69.keep lg6 n2;have m3:=hX69.keep lg6 n3
   have lg9:w.heap.size< w9.heap.size:=Nat.lt_of_lt_of_le lg6 hX69.size
   have HX9:=Lh hX69
   have HXW:=Lh ((HX5.out.1.trans HW6.out).trans hX69)
   have HI9:=Lh (HI.out.ext hX69)
   have HT9:=Lh (HTV.out.1.ext (HW6.out.trans hX69))
   have HPX:=Lh (And.intro (fun x hx=>(HPB.out x hx).1) (And.intro (fun x hx=>(HPB.out x hx).2.1) (fun x hx=>(HPB.out x hx).2.2)))
   have HNM:=Lh fun W (hE:Ext w9 W)=>xnamed_any _ W bx PS (HI9.out.ext hE) HPX.out.1 HPX.out.2.1 kd nm HPX.out.2.2 HL6.out
   have HHO:=Lh fun W (hE:Ext w9 W)=>xhold_any _ W bx PS (HI9.out.ext hE) HPX.out.1 HPX.out.2.1 pt HPX.out.2.2 HL6.out (by obtain⟨mx,hm⟩:=HE1.out.2.1;exact⟨mx,(HXW.out.trans hE).keep HE1.out.2.2 hm⟩)
   have HT0:=Lh fun W (hE:Ext w9 W)=>rtr_any T nm 0 kd (by have:=HTV.out.2.1;omega) (fun t ht=>by have:=HTV.out.2.2.1 t ht;omega) HTV.out.2.2.2 (by omega) _ _ W (HT9.out.ext hE)
   have HT1:=Lh fun W (hE:Ext w9 W)=>rtr_any T pt 1 0 (by have:=HTV.out.2.1;omega) (fun t ht=>by have:=HTV.out.2.2.1 t ht;omega) HTV.out.2.2.2 (by omega) _ _ W (HT9.out.ext hE)
   rw[HPSn.out]at HT0 HT1
   clear HSZ hX9 hX69 n0 n1 n2 n3 lg6 HX67 HX7 HI
   go_wp2_with fail
   refine rg_begin (S:=Sx w9) (by kernel_rfl) (Sx.begin _) ?_
   have hSa:Sx w9 (World.drew w9):=(Sx.begin _)
   refine rg_t 0 (some 55) (.int .i64 NP) rfl hSa (fun w' hs=>by rfl) ?_
   simp only[Act.put,sA,sZ,sS]
   refine rg_t 1 (some 56) (.slice ra NP rc) rfl hSa (fun w' hs=>by rfl) ?_
   simp only[Act.put,sA,sZ,sS]
   refine rg_t 2 (some 57) (.int .i64 NP) rfl hSa (fun w' hs=>by first | rfl | go_simp) ?_
   simp only[Act.put,sA,sZ,sS]
   refine rg_t 3 (some 58) (.bool false) rfl hSa (fun w' hs=>by first | rfl | go_simp) ?_
   simp only[Act.put,sA,sZ,sS]
   refine rg_t 4 (some 59) (.bool false) rfl hSa (fun w' hs=>by rfl) ?_
   simp only[Act.put,sA,sZ,sS]
   refine rg_t 5 (some 60) (.int .i64 NR) rfl hSa (fun w' hs=>by rfl) ?_
   simp only[Act.put,sA,sZ,sS]
   refine rg_t 6 (some 61) (.int .i64 NR) rfl hSa (fun w' hs=>by rfl) ?_
   simp only[Act.put,sA,sZ,sS]
   refine rg_t 7 (some 62) (.bool false) rfl hSa (fun w' hs=>by first | rfl | go_simp) ?_
   simp only[Act.put,sA,sZ,sS]
   refine rg_t 8 (some 63) (.bool false) rfl hSa (fun w' hs=>by rfl) ?_
   simp only[Act.put,sA,sZ,sS]
   refine rg_t 9 (some 64) (.bool false) rfl hSa (fun w' hs=>by rfl) ?_
   simp only[Act.put,sA,sZ,sS]
   refine rg_t 10 (some 65) (.pointer (some ⟨bx,0,none⟩)) rfl hSa (fun w' hs=>by rfl) ?_
   simp only[Act.put,sA,sZ,sS]
   refine rg_t 11 (some 66) (.pointer (some ⟨w.heap.size,0,none⟩)) rfl hSa (fun w' hs=>by first | rfl | go_simp) ?_
   simp only[Act.put,sA,sZ,sS]
   refine rg_t 12 (some 67) (.int .i64 kd) rfl hSa (fun w' hs=>by(have h0:=hs.cell lg9 m0;go_simp)) ?_
   simp only[Act.put,sA,sZ,sS]
   refine rg_t 13 (some 68) (.pointer (some ⟨w.heap.size,1,none⟩)) rfl hSa (fun w' hs=>by first | rfl | go_simp) ?_
   simp only[Act.put,sA,sZ,sS]
   refine rg_t 14 (some 69) (.string (bs nm)) rfl hSa (fun w' hs=>by(have h0:=hs.cell lg9 m1;go_simp)) ?_
   simp only[Act.put,sA,sZ,sS]
   refine rg_t 16 (some 71) (.slice ta T.length tc) rfl hSa (fun w' hs=>by rfl) ?_
   simp only[Act.put,sA,sZ,sS]
   refine rg_t 17 (some 72) (.pointer (some ⟨w.heap.size,0,none⟩)) rfl hSa (fun w' hs=>by first | rfl | go_simp) ?_
   simp only[Act.put,sA,sZ,sS]
   refine rg_t 18 (some 73) (.int .i64 kd) rfl hSa (fun w' hs=>by(have h0:=hs.cell lg9 m0;go_simp)) ?_
   simp only[Act.put,sA,sZ,sS]
   refine rg_t 19 (some 74) (.pointer (some ⟨w.heap.size,1,none⟩)) rfl hSa (fun w' hs=>by first | rfl | go_simp) ?_
   simp only[Act.put,sA,sZ,sS]
   refine rg_t 20 (some 75) (.string (bs nm)) rfl hSa (fun w' hs=>by(have h0:=hs.cell lg9 m1;go_simp)) ?_
   simp only[Act.put,sA,sZ,sS]
   refine rg_call 15 (some 70) 12 #[.pointer (some ⟨bx,0,none⟩),.int .i64 kd,.string (bs nm)] rfl rfl (by kernel_rfl) (by rfl) (fun w'=>by first | rfl | go_simp) (R:=fun v w'=>Rep w' (fun _=>True) v (trcsD (tracesL PS (askF 0 kd nm)))∧Ext (World.drew w9) w') ?_ ?_
   ·
    refine(HNM.out (World.drew w9) hSa).mono ?_
    rintro e w' ⟨⟨sv,rfl,hsv⟩,hB⟩
    exact⟨_,rfl,hsv.ok (fun _ _=>trivial),hB⟩
   rintro xa wra1 ⟨hxa,hBra1⟩
   have hSa1:=hSa.ext hBra1
   refine⟨hSa1,?_⟩
   simp only[Act.put,sA,sZ,sS]
   refine rg_call 21 (some 76) 13 #[.slice ta T.length tc,.int .i64 0,.int .i64 kd,.string (bs nm)] rfl rfl (by kernel_rfl) (by rfl) (fun w'=>by first | rfl | go_simp) (R:=fun v w'=>Rep w' (fun _=>True) v (trcsD (tracesL PS (askF 0 kd nm)))∧Ext wra1 w') ?_ ?_
   ·
    refine(HT0.out wra1 hSa1).mono ?_
    rintro e w' ⟨⟨sv,rfl,hsv⟩,hB⟩
    exact⟨_,rfl,hsv.ok (fun _ _=>trivial),hB⟩
   rintro xb wra2 ⟨hxb,hBra2⟩
   have hSa2:=hSa1.ext hBra2
   refine⟨hSa2,?_⟩
   simp only[Act.put,sA,sZ,sS]
   refine rg_call 22 (some 77) 11 #[xa,xb] rfl rfl (by kernel_rfl) (by rfl) (fun w'=>by first | rfl | go_simp) (R:=fun v w'=>v= .bool true∧Ext wra2 w') ?_ ?_
   ·
    refine(rsame_eq (tracesL PS (askF 0 kd nm)) _ _ xa xb wra2 (hxa.ext hBra2) hxb).mono ?_
    rintro e w' ⟨rfl,h⟩
    exact⟨_,rfl,rfl,h⟩
   rintro _ wra3 ⟨rfl,hBra3⟩
   have hSa3:=hSa2.ext hBra3
   refine⟨hSa3,?_⟩
   simp only[Act.put,sA,sZ,sS]
   refine rg_t 23 (some 78) (.bool false) rfl hSa3 (fun w' hs=>by first | rfl | go_simp) ?_
   simp only[Act.put,sA,sZ,sS]
   refine rg_t 24 (some 79) (.bool false) rfl hSa3 (fun w' hs=>by rfl) ?_
   simp only[Act.put,sA,sZ,sS]
   refine rg_t 25 (some 80) (.bool false) rfl hSa3 (fun w' hs=>by rfl) ?_
   simp only[Act.put,sA,sZ,sS]
   refine rg_t 26 (some 81) (.pointer (some ⟨bx,0,none⟩)) rfl hSa3 (fun w' hs=>by rfl) ?_
   simp only[Act.put,sA,sZ,sS]
   refine rg_t 27 (some 82) (.pointer (some ⟨w.heap.size,2,none⟩)) rfl hSa3 (fun w' hs=>by first | rfl | go_simp) ?_
   simp only[Act.put,sA,sZ,sS]
   refine rg_t 28 (some 83) (.string (bs pt)) rfl hSa3 (fun w' hs=>by(have h0:=hs.cell lg9 m2;go_simp)) ?_
   simp only[Act.put,sA,sZ,sS]
   refine rg_t 30 (some 85) (.slice ta T.length tc) rfl hSa3 (fun w' hs=>by rfl) ?_
   simp only[Act.put,sA,sZ,sS]
   refine rg_t 31 (some 86) (.pointer (some ⟨w.heap.size,2,none⟩)) rfl hSa3 (fun w' hs=>by first | rfl | go_simp) ?_
   simp only[Act.put,sA,sZ,sS]
   refine rg_t 32 (some 87) (.string (bs pt)) rfl hSa3 (fun w' hs=>by(have h0:=hs.cell lg9 m2;go_simp)) ?_
   simp only[Act.put,sA,sZ,sS]
   refine rg_call 29 (some 84) 14 #[.pointer (some ⟨bx,0,none⟩),.string (bs pt)] rfl rfl (by kernel_rfl) (by rfl) (fun w'=>by first | rfl | go_simp) (R:=fun v w'=>Rep w' (fun _=>True) v (trcsD (tracesL PS (askF 1 0 pt)))∧Ext wra3 w') ?_ ?_
   ·
    refine(HHO.out wra3 hSa3).mono ?_
    rintro e w' ⟨⟨sv,rfl,hsv⟩,hB⟩
    exact⟨_,rfl,hsv.ok (fun _ _=>trivial),hB⟩
   rintro xc wra4 ⟨hxc,hBra4⟩
   have hSa4:=hSa3.ext hBra4
   refine⟨hSa4,?_⟩
   simp only[Act.put,sA,sZ,sS]
   refine rg_call 33 (some 88) 13 #[.slice ta T.length tc,.int .i64 1,.int .i64 0,.string (bs pt)] rfl rfl (by kernel_rfl) (by rfl) (fun w'=>by first | rfl | go_simp) (R:=fun v w'=>Rep w' (fun _=>True) v (trcsD (tracesL PS (askF 1 0 pt)))∧Ext wra4 w') ?_ ?_
   ·
    refine(HT1.out wra4 hSa4).mono ?_
    rintro e w' ⟨⟨sv,rfl,hsv⟩,hB⟩
    exact⟨_,rfl,hsv.ok (fun _ _=>trivial),hB⟩
   rintro xd wra5 ⟨hxd,hBra5⟩
   have hSa5:=hSa4.ext hBra5
   refine⟨hSa5,?_⟩
   simp only[Act.put,sA,sZ,sS]
   refine rg_call 34 (some 89) 11 #[xc,xd] rfl rfl (by kernel_rfl) (by rfl) (fun w'=>by first | rfl | go_simp) (R:=fun v w'=>v= .bool true∧Ext wra5 w') ?_ ?_
   ·
    refine(rsame_eq (tracesL PS (askF 1 0 pt)) _ _ xc xd wra5 (hxc.ext hBra5) hxd).mono ?_
    rintro e w' ⟨rfl,h⟩
    exact⟨_,rfl,rfl,h⟩
   rintro _ wra6 ⟨rfl,hBra6⟩
   have hSa6:=hSa5.ext hBra6
   refine⟨hSa6,?_⟩
   simp only[Act.put,sA,sZ,sS]
   refine rg_t 35 (some 90) (.bool false) rfl hSa6 (fun w' hs=>by first | rfl | go_simp) ?_
   simp only[Act.put,sA,sZ,sS]
   refine rg_t 36 (some 91) (.bool false) rfl hSa6 (fun w' hs=>by rfl) ?_
   simp only[Act.put,sA,sZ,sS]
   refine rg_done (by kernel_rfl) ?_
   have j0:=hSa6.cell lg9 m0;have j1:=hSa6.cell lg9 m1;have j2:=hSa6.cell lg9 m2;have j3:=hSa6.cell lg9 m3
   have lg10:w.heap.size< wra6.heap.size:=Nat.lt_of_lt_of_le lg9 (show Ext w9 wra6 from hSa6).size
   have HXA:=Lh (HXW.out.trans (show Ext w9 wra6 from hSa6))
   have HPA:=Lh fun W (hE:Ext wra6 W)=>xpath_any _ W bx PS (HI9.out.ext ((show Ext w9 wra6 from hSa6).trans hE)) HPX.out.1 HPX.out.2.1 ph (by omega)
   have HWH:=Lh fun W (hE:Ext wra6 W)=>xwhen_any _ W bx PS (HI9.out.ext ((show Ext w9 wra6 from hSa6).trans hE)) HPX.out.1 HPX.out.2.1 ph pt (by omega)
   have HV2:=Lh fun W (hE:Ext wra6 W)=>rvers_any T ph [] 2 0 (by have:=HTV.out.2.1;omega) (fun t ht=>by have:=HTV.out.2.2.1 t ht;omega) HTV.out.2.2.2 (by simp) _ _ W (HT9.out.ext ((show Ext w9 wra6 from hSa6).trans hE))
   have HV3:=Lh fun W (hE:Ext wra6 W)=>rvers_any T ph pt 3 0 (by have:=HTV.out.2.1;omega) (fun t ht=>by have:=HTV.out.2.2.1 t ht;omega) HTV.out.2.2.2 (by omega) _ _ W (HT9.out.ext ((show Ext w9 wra6 from hSa6).trans hE))
   rw[HPSn.out]at HV2 HV3
   clear hSa1 hSa2 hSa3 hSa4 hSa5 hSa6 hSa hBra1 hBra2 hBra3 hBra4 hBra5 hBra6 hxa hxb hxc hxd HNM HHO HT0 HT1 m0 m1 m2 m3 lg9
   go_wp2_with fail
   refine rg_begin (S:=Sx wra6) (by kernel_rfl) (Sx.begin _) ?_
   have hSb:Sx wra6 (World.drew wra6):=(Sx.begin _)
   refine rg_t 0 (some 92) (.pointer (some ⟨bx,0,none⟩)) rfl hSb (fun w' hs=>by rfl) ?_
   simp only[Act.put,sA,sZ,sS]
   refine rg_t 1 (some 93) (.pointer (some ⟨w.heap.size,3,none⟩)) rfl hSb (fun w' hs=>by first | rfl | go_simp) ?_
   simp only[Act.put,sA,sZ,sS]
   refine rg_t 2 (some 94) (.string (bs ph)) rfl hSb (fun w' hs=>by(have h0:=hs.cell lg10 j3;go_simp)) ?_
   simp only[Act.put,sA,sZ,sS]
   refine rg_t 4 (some 96) (.slice ta T.length tc) rfl hSb (fun w' hs=>by rfl) ?_
   simp only[Act.put,sA,sZ,sS]
   refine rg_t 5 (some 97) (.pointer (some ⟨w.heap.size,3,none⟩)) rfl hSb (fun w' hs=>by first | rfl | go_simp) ?_
   simp only[Act.put,sA,sZ,sS]
   refine rg_t 6 (some 98) (.string (bs ph)) rfl hSb (fun w' hs=>by(have h0:=hs.cell lg10 j3;go_simp)) ?_
   simp only[Act.put,sA,sZ,sS]
   refine rg_call 3 (some 95) 16 #[.pointer (some ⟨bx,0,none⟩),.string (bs ph)] rfl rfl (by kernel_rfl) (by rfl) (fun w'=>by first | rfl | go_simp) (R:=fun v w'=>Rep w' (fun _=>True) v (spansD (versS PS ph (askF 2 0 [])))∧Ext (World.drew wra6) w') ?_ ?_
   ·
    refine(HPA.out (World.drew wra6) hSb).mono ?_
    rintro e w' ⟨⟨sv,rfl,hsv⟩,hB⟩
    exact⟨_,rfl,hsv.ok (fun _ _=>trivial),hB⟩
   rintro ya wrb1 ⟨hya,hBrb1⟩
   have hSb1:=hSb.ext hBrb1
   refine⟨hSb1,?_⟩
   simp only[Act.put,sA,sZ,sS]
   refine rg_call 7 (some 99) 17 #[.slice ta T.length tc,.string (bs ph),.int .i64 2,.int .i64 0,.string {data:= #[]}] rfl rfl (by kernel_rfl) (by rfl) (fun w'=>by first | rfl | go_simp) (R:=fun v w'=>Rep w' (fun _=>True) v (spansD (versS PS ph (askF 2 0 [])))∧Ext wrb1 w') ?_ ?_
   ·
    refine(HV2.out wrb1 hSb1).mono ?_
    rintro e w' ⟨⟨sv,rfl,hsv⟩,hB⟩
    exact⟨_,rfl,hsv.ok (fun _ _=>trivial),hB⟩
   rintro yb wrb2 ⟨hyb,hBrb2⟩
   have hSb2:=hSb1.ext hBrb2
   refine⟨hSb2,?_⟩
   simp only[Act.put,sA,sZ,sS]
   refine rg_call 8 (some 100) 15 #[ya,yb] rfl rfl (by kernel_rfl) (by rfl) (fun w'=>by first | rfl | go_simp) (R:=fun v w'=>v= .bool true∧Ext wrb2 w') ?_ ?_
   ·
    refine(spans_eq (versS PS ph (askF 2 0 [])) _ _ ya yb wrb2 (hya.ext hBrb2) hyb).mono ?_
    rintro e w' ⟨rfl,h⟩
    exact⟨_,rfl,rfl,h⟩
   rintro _ wrb3 ⟨rfl,hBrb3⟩
   have hSb3:=hSb2.ext hBrb3
   refine⟨hSb3,?_⟩
   simp only[Act.put,sA,sZ,sS]
   refine rg_t 9 (some 101) (.bool true) rfl hSb3 (fun w' hs=>by rfl) ?_
   simp only[Act.put,sA,sZ,sS]
   refine rg_t 10 (some 102) (.pointer (some ⟨bx,0,none⟩)) rfl hSb3 (fun w' hs=>by rfl) ?_
   simp only[Act.put,sA,sZ,sS]
   refine rg_t 11 (some 103) (.pointer (some ⟨w.heap.size,3,none⟩)) rfl hSb3 (fun w' hs=>by first | rfl | go_simp) ?_
   simp only[Act.put,sA,sZ,sS]
   refine rg_t 12 (some 104) (.string (bs ph)) rfl hSb3 (fun w' hs=>by(have h0:=hs.cell lg10 j3;go_simp)) ?_
   simp only[Act.put,sA,sZ,sS]
   refine rg_t 13 (some 105) (.pointer (some ⟨w.heap.size,2,none⟩)) rfl hSb3 (fun w' hs=>by first | rfl | go_simp) ?_
   simp only[Act.put,sA,sZ,sS]
   refine rg_t 14 (some 106) (.string (bs pt)) rfl hSb3 (fun w' hs=>by(have h0:=hs.cell lg10 j2;go_simp)) ?_
   simp only[Act.put,sA,sZ,sS]
   refine rg_t 16 (some 108) (.slice ta T.length tc) rfl hSb3 (fun w' hs=>by rfl) ?_
   simp only[Act.put,sA,sZ,sS]
   refine rg_t 17 (some 109) (.pointer (some ⟨w.heap.size,3,none⟩)) rfl hSb3 (fun w' hs=>by first | rfl | go_simp) ?_
   simp only[Act.put,sA,sZ,sS]
   refine rg_t 18 (some 110) (.string (bs ph)) rfl hSb3 (fun w' hs=>by(have h0:=hs.cell lg10 j3;go_simp)) ?_
   simp only[Act.put,sA,sZ,sS]
   refine rg_t 19 (some 111) (.pointer (some ⟨w.heap.size,2,none⟩)) rfl hSb3 (fun w' hs=>by first | rfl | go_simp) ?_
   simp only[Act.put,sA,sZ,sS]
   refine rg_t 20 (some 112) (.string (bs pt)) rfl hSb3 (fun w' hs=>by(have h0:=hs.cell lg10 j2;go_simp)) ?_
   simp only[Act.put,sA,sZ,sS]
   refine rg_call 15 (some 107) 18 #[.pointer (some ⟨bx,0,none⟩),.string (bs ph),.string (bs pt)] rfl rfl (by kernel_rfl) (by rfl) (fun w'=>by first | rfl | go_simp) (R:=fun v w'=>Rep w' (fun _=>True) v (spansD (versS PS ph (askF 3 0 pt)))∧Ext wrb3 w') ?_ ?_
   ·
    refine(HWH.out wrb3 hSb3).mono ?_
    rintro e w' ⟨⟨sv,rfl,hsv⟩,hB⟩
    exact⟨_,rfl,hsv.ok (fun _ _=>trivial),hB⟩
   rintro yc wrb4 ⟨hyc,hBrb4⟩
   have hSb4:=hSb3.ext hBrb4
   refine⟨hSb4,?_⟩
   simp only[Act.put,sA,sZ,sS]
   refine rg_call 21 (some 113) 17 #[.slice ta T.length tc,.string (bs ph),.int .i64 3,.int .i64 0,.string (bs pt)] rfl rfl (by kernel_rfl) (by rfl) (fun w'=>by first | rfl | go_simp) (R:=fun v w'=>Rep w' (fun _=>True) v (spansD (versS PS ph (askF 3 0 pt)))∧Ext wrb4 w') ?_ ?_
   ·
    refine(HV3.out wrb4 hSb4).mono ?_
    rintro e w' ⟨⟨sv,rfl,hsv⟩,hB⟩
    exact⟨_,rfl,hsv.ok (fun _ _=>trivial),hB⟩
   rintro yd wrb5 ⟨hyd,hBrb5⟩
   have hSb5:=hSb4.ext hBrb5
   refine⟨hSb5,?_⟩
   simp only[Act.put,sA,sZ,sS]
   refine rg_call 22 (some 114) 15 #[yc,yd] rfl rfl (by kernel_rfl) (by rfl) (fun w'=>by first | rfl | go_simp) (R:=fun v w'=>v= .bool true∧Ext wrb5 w') ?_ ?_
   ·
    refine(spans_eq (versS PS ph (askF 3 0 pt)) _ _ yc yd wrb5 (hyc.ext hBrb5) hyd).mono ?_
    rintro e w' ⟨rfl,h⟩
    exact⟨_,rfl,rfl,h⟩
   rintro _ wrb6 ⟨rfl,hBrb6⟩
   have hSb6:=hSb5.ext hBrb6
   refine⟨hSb6,?_⟩
   simp only[Act.put,sA,sZ,sS]
   refine rg_t 23 (some 115) (.bool true) rfl hSb6 (fun w' hs=>by rfl) ?_
   simp only[Act.put,sA,sZ,sS]
   refine rg_t 24 (some 6) (.bool true) rfl hSb6 (fun w' hs=>by rfl) ?_
   simp only[Act.put,sA,sZ,sS]
   refine rg_done (by kernel_rfl) ?_
   have HFX:=Lh (HXA.out.trans (show Ext wra6 wrb6 from hSb6))
   go_wp2_with fail
   go_ret
   exact⟨rfl,HFX.out⟩
  ·
   have hg:(2000:Int)< wrap64 (wrap64 (((bs nm).size:Int)+((bs pt).size:Int))+((bs ph).size:Int)):=by rw[hwr];omega
   have hg':=decide_eq_true hg
   clear hwr
   go_wp2_with fail
   go_ret
   exact⟨rfl,HX5.out.1⟩
end Go.Proofs.YtngmgjodcnknoaaGreatDoor
