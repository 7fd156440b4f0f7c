/-
 law29:awake. Helper lemmas;no statement of the seat is proved here.
-/
import Derived.Test.YtngmgjodcnknoaaGreatDoorU29
import Derived.Test.YtngmgjodcnknoaaGreatDoorU10
namespace Go.Proofs.YtngmgjodcnknoaaGreatDoor
open Go.RowKit
set_option maxHeartbeats 32000000
set_option maxRecDepth 100000
set_option linter.unusedVariables false
set_option linter.unusedSimpArgs false
def awR:List Rule:= [⟨[[100,98]],[]⟩]
def awD:List Node:= [.mk 1 [100,98] [] [] [],.mk 1 [100,98] [] [⟨[97],[120,121]⟩] []]
theorem awR_ok:RulesOk awR:=by
 intro r hr
 simp only[awR,List.mem_cons,List.not_mem_nil,or_false]at hr
 subst hr
 exact⟨by decide,fun k hk=>(by cases hk)⟩
theorem awD_wf:∀d∈awD,wfN awR d [[100,98]]:=by
 intro d hd
 simp only[awD,List.mem_cons,List.not_mem_nil,or_false]at hd
 have hf:frontS awR [[100,98]]=true:=by decide
 rcases hd with rfl | rfl
 ·
  rw[wfN_eq];exact⟨rfl,fun h=>by rw[hf]at h;cases h⟩
 ·
  rw[wfN_eq];exact⟨rfl,fun h=>by rw[hf]at h;cases h⟩
theorem aw_r1:rowsA 1 (rootP awR [100,98] awD) []= [(1,[100,98],[],[47,100,98])]:=by kernel_rfl
theorem aw_r2:rowsA 2 (rootP awR [100,98] awD) []= [(1,[100,98],[],[47,100,98]),(5,[97],[120,121],[47,100,98,47,64,97])]:=by kernel_rfl
theorem aw_ok:ArOk (rootP awR [100,98] awD) 2:=by
 refine⟨by decide,fun i hi=> ?_,fun i hi r hr=> ?_,fun i hi=> ?_⟩
 ·
  match i,hi with
  | 0,_=>show ahas (rootP awR [100,98] awD).vers 1=true;kernel_rfl
  | 1,_=>show ahas (rootP awR [100,98] awD).vers 2=true;kernel_rfl
 ·
  match i,hi with
  | 0,_=>
   rw[show(((0:Nat):Int)+1)=1 from rfl,aw_r1]at hr
   simp only[List.mem_cons,List.not_mem_nil,or_false]at hr
   subst hr
   exact⟨⟨by decide,by decide,by decide⟩,by decide,by decide⟩
  | 1,_=>
   rw[show(((1:Nat):Int)+1)=2 from rfl,aw_r2]at hr
   simp only[List.mem_cons,List.not_mem_nil,or_false]at hr
   rcases hr with rfl | rfl
   ·
    exact⟨⟨by decide,by decide,by decide⟩,by decide,by decide⟩
   ·
    exact⟨⟨by decide,by decide,by decide⟩,by decide,by decide⟩
 ·
  match i,hi with
  | 0,_=>rw[show(((0:Nat):Int)+1)=1 from rfl,aw_r1];decide
  | 1,_=>rw[show(((1:Nat):Int)+1)=2 from rfl,aw_r2];decide
def awP:List IR:= [(1,6,[],[],[47]),(1,1,[100,98],[],[47,100,98]),(2,6,[],[],[47]),(2,1,[100,98],[],[47,100,98]),(2,5,[97],[120,121],[47,100,98,47,64,97])]
theorem aw_ps:psA (rootP awR [100,98] awD) 2=awP:=by
 rw[psA,psA,psA]
 unfold tabA
 rw[show(((0:Nat):Int)+1)=1 from rfl,show(((1:Nat):Int)+1)=2 from rfl,aw_r1,aw_r2];rfl
theorem aw_n:tracesL awP (askF 0 5 [97])= [⟨[47,100,98,47,64,97],[⟨2,2⟩]⟩]:=by kernel_rfl
theorem aw_y:(tracesL awP (askF 1 0 [121])).length=1:=by kernel_rfl
theorem aw_z:tracesL awP (askF 1 0 [122])= []:=by kernel_rfl
theorem aw_l:(pathsL awP).length=3∧awP.length=5:=⟨by kernel_rfl,rfl⟩
theorem awake_any (w:World) (hmax:∃mx,w.cell? ⟨0,0,none⟩=some (.int .i64 mx)) (l00:0< w.heap.size):Calls Tryz.prog 6 #[] w fun e w'=>e= .returned (.bool true)∧Ext w w':=by
 obtain⟨a1,ha1⟩:∃W,w.alloc (.cells #[.string ⟨#[100,98]⟩] 9)=W:=⟨_,rfl⟩
 have ea1:Ext w a1:=by rw[←ha1];exact(Ext.refl _).alloc _
 have sa1:a1.heap.size=w.heap.size+1:=by rw[←ha1];simp
 have ra1:Rep a1 (fun _=>True) (.slice (some ⟨w.heap.size,0,none⟩) 1 1) (strsD [[100,98]]):=by rw[←ha1];exact rep_lit rfl rfl (by decide) (Reps.cons (Rep.string _ _ (bs [100,98]) (by decide)) (Reps.nil _ _))
 obtain⟨a2,ha2⟩:∃W,a1.alloc (.cells #[.slice (some ⟨w.heap.size,0,none⟩) 1 1,.slice none 0 0] 62)=W:=⟨_,rfl⟩
 have ea2:Ext a1 a2:=by rw[←ha2];exact(Ext.refl _).alloc _
 have sa2:a2.heap.size=w.heap.size+1+1:=by rw[←ha2];simp;rw[sa1]
 have ra2:Rep a2 (fun _=>True) (.slice (some ⟨a1.heap.size,0,none⟩) 1 1) (rulesD awR):=by rw[←ha2];exact rep_lit rfl rfl (by decide) (Reps.cons (ra1) (Reps.cons (.nil 1) (Reps.nil _ _)))
 rw[sa1]at ra2
 obtain⟨a3,ha3⟩:∃W,a2.alloc (.cells #[.string ⟨#[97]⟩,.string ⟨#[120,121]⟩] 68)=W:=⟨_,rfl⟩
 have ea3:Ext a2 a3:=by rw[←ha3];exact(Ext.refl _).alloc _
 have sa3:a3.heap.size=w.heap.size+1+1+1:=by rw[←ha3];simp;rw[sa2]
 have ra3:Rep a3 (fun _=>True) (.slice (some ⟨a2.heap.size,0,none⟩) 1 1) (attrsD [⟨[97],[120,121]⟩]):=by rw[←ha3];exact rep_lit rfl rfl (by decide) (Reps.cons (Rep.string _ _ (bs [97]) (by decide)) (Reps.cons (Rep.string _ _ (bs [120,121]) (by decide)) (Reps.nil _ _)))
 rw[sa2]at ra3
 obtain⟨a4,ha4⟩:∃W,a3.alloc (.cells #[.int .i64 1,.string ⟨#[100,98]⟩,.string ⟨#[]⟩,.slice none 0 0,.slice none 0 0,.int .i64 1,.string ⟨#[100,98]⟩,.string ⟨#[]⟩,.slice (some ⟨w.heap.size+1+1,0,none⟩) 1 1,.slice none 0 0] 66)=W:=⟨_,rfl⟩
 have ea4:Ext a3 a4:=by rw[←ha4];exact(Ext.refl _).alloc _
 have sa4:a4.heap.size=w.heap.size+1+1+1+1:=by rw[←ha4];simp;rw[sa3]
 have ra4:Rep a4 (fun _=>True) (.slice (some ⟨a3.heap.size,0,none⟩) 2 2) (nodesD awD):=by rw[←ha4];exact rep_lit rfl rfl (by decide) (Reps.cons (Rep.int _ _ _ _) (Reps.cons (Rep.string _ _ (bs [100,98]) (by decide)) (Reps.cons (Rep.string _ _ (bs []) (by decide)) (Reps.cons (.nil 2) (Reps.cons (.nil 5) (Reps.cons (Rep.int _ _ _ _) (Reps.cons (Rep.string _ _ (bs [100,98]) (by decide)) (Reps.cons (Rep.string _ _ (bs []) (by decide)) (Reps.cons ra3 (Reps.cons (.nil 5) (Reps.nil _ _)))))))))))
 rw[sa3]at ra4
 have hEa:Ext w a4:=((ea1.trans ea2).trans ea3).trans ea4
 have hR:=(ra2.ext ea3).ext ea4
 have HBU:=Lh (build_any awR [100,98] awR_ok ⟨_,_,rfl⟩ awD (fun _=>True) _ _ a4 (fun d hd=>⟨awD_wf d hd,by simp only[awD,List.mem_cons,List.not_mem_nil,or_false]at hd;rcases hd with rfl | rfl<;> decide⟩) (by decide) hR ra4)
 obtain⟨RT,hRT⟩:∃R,rootP awR [100,98] awD=R:=⟨_,rfl⟩
 have hok:=aw_ok
 have hps:=aw_ps
 rw[hRT]at HBU hok hps
 rw[show((awD.length:Nat):Int)=2 from rfl]at HBU
 have HAW:=Lh (And.intro hok hps)
 clear hRT hok hps
 have HHW:=Lh (And.intro ha1 (And.intro ha2 (And.intro ha3 ha4)))
 have HEA:=Lh hEa
 clear ha1 ha2 ha3 ha4 ra1 ra2 ra3 ra4 ea1 ea2 ea3 ea4 sa1 sa2 sa3 sa4 hR hEa
 go_enter Tryz.func6,Tryz.ntmps6
 go_wp2_with fail
 obtain⟨ha1,ha2,ha3,ha4⟩:=HHW.out
 rw[ha1,ha2,ha3,ha4]
 clear ha1 ha2 ha3 ha4 HHW
 refine HBU.out.mono ?_
 rintro e w2 ⟨⟨k,v,pa,c,kc,vc,pc,cc,rfl,hk,hv,hpa,hc⟩,hX2⟩
 have HNE:=Lh (xnew_any RT 2 2 rfl HAW.out.1 _ (some ⟨w.heap.size+1,0,none⟩) 1 1 k v pa c kc vc pc cc w2 hk hv hpa hc)
 have HX2:=Lh (HEA.out.trans hX2)
 clear HBU hk hv hpa hc hX2
 go_wp2_with fail
 refine HNE.out.mono ?_
 rintro e w3 ⟨⟨bx,rfl,hI⟩,hX3⟩
 rw[HAW.out.2]at hI
 have HI:=Lh (And.intro hI (HX2.out.trans hX3))
 have HPB:=Lh (psA_b HAW.out.1 2 (Nat.le_refl _))
 rw[HAW.out.2]at HPB
 clear HNE hI hX3 HX2
 have HNA:=Lh (xnamed_any _ w3 bx awP HI.out.1 (fun x hx=>(HPB.out x hx).1) (fun x hx=>(HPB.out x hx).2.1) 5 [97] (fun x hx=>(HPB.out x hx).2.2) (by decide))
 rw[aw_n]at HNA
 go_wp2_with fail
 refine HNA.out.mono ?_
 rintro e w4 ⟨⟨lv,rfl,hlv⟩,hX4⟩
 obtain⟨la',lc',rfl,_,_⟩:=hlv.count z_trc (by omega)
 obtain⟨lb,lo,sv,rfl,lgl,_,l0,l1,hsv⟩:=trc_at hlv 0 (by decide)
 obtain⟨sa,sn,sc,rfl,_⟩:=hsv.slice
 rw[show([(⟨[47,100,98,47,64,97],[⟨2,2⟩]⟩:Trc)]).length=1 from rfl]
 replace l0:w4.cell? ⟨lb,lo,none⟩=some (.string (bs [47,100,98,47,64,97])):=by rw[Nat.zero_mul,Nat.add_zero]at l0;exact l0
 replace l1:w4.cell? ⟨lb,lo+1,none⟩=some (.slice sa sn sc):=by rw[Nat.zero_mul,Nat.add_zero]at l1;exact l1
 replace hsv:Rep w4 _ (.slice sa sn sc) (spansD [⟨2,2⟩]):=hsv
 have HI4:=Lh (And.intro (HI.out.1.ext hX4) (And.intro (HI.out.2.trans hX4) hsv))
 have HSZ:=Lh (xsize_any _ w4 bx awP HI4.out.1)
 rw[aw_l.1,aw_l.2]at HSZ
 have hlc1:(1:Nat)≤lc':=by assumption
 have e6:((bs [47,100,98,47,64,97]).toList==([47,100,98,47,64,97]:List UInt8))=true:=by kernel_rfl
 have e7:(bs [47,100,98,47,64,97]).toList=([47,100,98,47,64,97]:List UInt8):=by kernel_rfl
 clear HNA hlv hX4 hsv
 go_wp2_with fail
 refine HSZ.out.mono ?_
 rintro e w5 ⟨rfl,hX5⟩
 have m0:=hX5.keep lgl l0
 have m1:=hX5.keep lgl l1
 have HI5:=Lh (And.intro (HI4.out.1.ext hX5) (And.intro (HI4.out.2.1.trans hX5) (HI4.out.2.2.ext hX5)))
 have HTX:=Lh (text22_any _ _ w5 HI5.out.2.2)
 clear HSZ l0 l1 hX5
 go_wp2_with fail
 refine HTX.out.mono ?_
 rintro e w6 ⟨rfl,hX6⟩
 have HI6:=Lh (And.intro (HI5.out.1.ext hX6) (HI5.out.2.1.trans hX6))
 have HHY:=Lh (xhold_any _ w6 bx awP HI6.out.1 (fun x hx=>(HPB.out x hx).1) (fun x hx=>(HPB.out x hx).2.1) [121] (fun x hx=>(HPB.out x hx).2.2) (by decide) (by obtain⟨mx,hm⟩:=hmax;exact⟨mx,HI6.out.2.keep l00 hm⟩))
 obtain⟨LY,hLY⟩:∃L,tracesL awP (askF 1 0 [121])=L:=⟨_,rfl⟩
 have hyl:=aw_y
 rw[hLY]at HHY hyl
 have e50:((bs [50]).toList==([50]:List UInt8))=true:=by kernel_rfl
 have e51:(bs [50]).toList=([50]:List UInt8):=by kernel_rfl
 clear hX6 HTX hLY m0 m1 e6 e7
 go_wp2_with fail
 refine HHY.out.mono ?_
 rintro e w7 ⟨⟨yv,rfl,hyv⟩,hX7⟩
 obtain⟨ya,yc,rfl,_,_⟩:=hyv.count z_trc (by omega)
 rw[hyl]
 have HI7:=Lh (And.intro (HI6.out.1.ext hX7) (HI6.out.2.trans hX7))
 have HHZ:=Lh (xhold_any _ w7 bx awP HI7.out.1 (fun x hx=>(HPB.out x hx).1) (fun x hx=>(HPB.out x hx).2.1) [122] (fun x hx=>(HPB.out x hx).2.2) (by decide) (by obtain⟨mx,hm⟩:=hmax;exact⟨mx,HI7.out.2.keep l00 hm⟩))
 rw[aw_z]at HHZ
 clear hyv hX7 HHY e50 e51
 go_wp2_with fail
 refine HHZ.out.mono ?_
 rintro e w8 ⟨⟨zv,rfl,hzv⟩,hX8⟩
 obtain⟨za,zc,rfl,_,_⟩:=hzv.count z_trc (by omega)
 rw[show([]:List Trc).length=0 from rfl]
 have HF:=Lh (HI7.out.2.trans hX8)
 clear hzv hX8 HHZ
 go_wp2_with fail
 go_ret
 exact⟨rfl,HF.out⟩
theorem w64_in (n:Int) (h: -9223372036854775808≤n∧n≤9223372036854775807):wrap64 n=n:=by unfold wrap64;omega
theorem six_cells {W X:World} {g:Nat} (v0 v1 v2 v3 v4 v5:Value) (h:Z6 W g)
  (hX:(((((W.setCell ⟨g,0,none⟩ v0).setCell ⟨g,1,none⟩ v1).setCell ⟨g,2,none⟩ v2).setCell ⟨g,3,none⟩ v3).setCell ⟨g,4,none⟩ v4).setCell ⟨g,5,none⟩ v5=X):
  X.cell? ⟨g,0,none⟩=some v0∧X.cell? ⟨g,1,none⟩=some v1∧X.cell? ⟨g,2,none⟩=some v2∧X.cell? ⟨g,3,none⟩=some v3∧X.cell? ⟨g,4,none⟩=some v4∧X.cell? ⟨g,5,none⟩=some v5:=by
 have c0:=h.c0;have c1:=h.c1;have c2:=h.c2;have c3:=h.c3;have c4:=h.c4;have c5:=h.c5
 subst hX
 refine⟨by go_simp,by go_simp,by go_simp,by go_simp,by go_simp,by go_simp⟩
theorem mayG_at:∀(l:List Span) (lo:Int),mayG lo l→∀(i:Nat) (h:i< l.length),lo≤l[i].a∧l[i].a≤l[i].b∧l[i].b≤200
 | [],_,_,i,h=>absurd h (Nat.not_lt_zero _)
 | s::r,lo,⟨h1,h2,h3,h4⟩,0,h=>⟨h1,h2,h3⟩
 | s::r,lo,⟨h1,h2,h3,h4⟩,i+1,h=>by
  obtain⟨a,b,c⟩:=mayG_at r _ h4 i (by simpa using h)
  rw[List.getElem_cons_succ]
  exact⟨by omega,b,c⟩
theorem inS_get (l:List Span) (i:Nat) (h:i< l.length) (v:Int) (h1:l[i].a≤v) (h2:v≤l[i].b):inS l v=true:=by
 unfold inS
 rw[List.any_eq_true]
 exact⟨l[i],List.getElem_mem h,decide_eq_true ⟨h1,h2⟩⟩
theorem both_none (x y:List Span) (hx:mayG 1 x) (hy:mayG 1 y) (hd:∀v,inS x v=true→inS y v=false) (p q:Nat→Prop) (v u:Value) (w:World) (h:Rep w p v (spansD x)) (k:Rep w q u (spansD y)):
  Calls Tryz.prog 62 #[v,u] w fun e w'=>e= .returned (.slice none 0 0)∧Ext w w':=by
 have HM1:=Lh fun W (hE:Ext w W)=>may_set x p v W (h.ext hE)
 have HM2:=Lh fun W (hE:Ext w W)=>may_set y q u W (k.ext hE)
 rw[mayI_of x 1 (-1) hx (by omega) (.inl (by omega))]at HM1
 rw[mayI_of y 1 (-1) hy (by omega) (.inl (by omega))]at HM2
 obtain⟨a,c,rfl,hc1,hc2⟩:=h.count z_span (by omega)
 obtain⟨b,d,rfl,hd1,hd2⟩:=k.count z_span (by omega)
 have HD:=Lh hd
 clear hd
 go_enter Tryz.func62,Tryz.ntmps62
 go_wp2_with fail
 refine(HM1.out _ (Ext.refl _)).mono ?_
 rintro e w1 ⟨rfl,hB1⟩
 go_wp2_with fail
 refine(HM2.out _ hB1).mono ?_
 rintro e w2 ⟨rfl,hB2⟩
 have hE2:=hB1.trans hB2
 go_wp2_with fail
 go_loopw [5,6,7,8,9] (fun o ti tk _ _ wr=>∃(i k:Nat),ti= .int .i64 i∧tk= .int .i64 k∧o= .slice none 0 0∧i≤x.length∧k≤y.length∧Ext w wr) (fun _ ti tk _ _ _=>downV x.length ti+downV y.length tk)
 case atStart=>exact⟨0,0,rfl,rfl,rfl,Nat.zero_le _,Nat.zero_le _,hE2⟩
 case round=>
  obtain⟨i,k',rfl,rfl,rfl,hi,hk,hX⟩:=hrel
  have hi0:(0:Int)≤(i:Int):=by omega
  have hk0:(0:Int)≤(k':Int):=by omega
  by_cases hlt:i< x.length
  ·
   have hlI:(i:Int)< (x.length:Int):=by omega
   by_cases hkt:k'< y.length
   ·
    have hkI:(k':Int)< (y.length:Int):=by omega
    obtain⟨g,o,rfl,lg,_,d0,d1⟩:=span_at (h.ext hX) i hlt
    obtain⟨g',o',rfl,lg',_,e0,e1⟩:=span_at (k.ext hX) k' hkt
    have hgx:=fun v=>inS_get x i hlt v
    have hgy:=fun v=>inS_get y k' hkt v
    obtain⟨mx1,mx2,_⟩:=mayG_at x 1 hx i hlt
    obtain⟨my1,my2,_⟩:=mayG_at y 1 hy k' hkt
    obtain⟨s,hs⟩:∃s,x[i]=s:=⟨_,rfl⟩
    obtain⟨t,ht⟩:∃t,y[k']=t:=⟨_,rfl⟩
    rw[hs]at d0 d1 mx1 mx2
    simp only[hs]at hgx
    rw[ht]at e0 e1 my1 my2
    simp only[ht]at hgy
    have hno:s.b< t.a∨t.b< s.a:=by
     by_cases h1:s.b< t.a
     ·
      exact .inl h1
     ·
      by_cases h2:t.b< s.a
      ·
       exact .inr h2
      ·
       exfalso
       by_cases h3:s.a≤t.a
       ·
        have:=HD.out t.a (hgx _ h3 (by omega))
        rw[hgy _ (Int.le_refl _) my2]at this;cases this
       ·
        have:=HD.out s.a (hgx _ (Int.le_refl _) mx2)
        rw[hgy _ (by omega) (by omega)]at this;cases this
    have HX:=Lh hX
    clear hgx hgy hs ht hX
    rcases hno with h1 | h1
    ·
     have q1:max s.a t.a=t.a:=by omega
     have q2:min s.b t.b=s.b:=by omega
     have q3:decide (t.a≤s.b)=false:=decide_eq_false (by omega)
     have q3':¬t.a≤s.b:=by omega
     have q4:decide (s.b< t.b)=true:=decide_eq_true (by omega)
     have q5:s.b< t.b:=by omega
     go_wp2_with fail
     go_quiet (fail)
     go_wp2_with fail
     go_quiet (fail)
     go_wp2_with fail
     go_roundw
     case rel=>exact⟨i+1,k',by go_num,rfl,rfl,by omega,by omega,HX.out.drewN _⟩
     case measure=>simp only[downV];omega
    ·
     have q1:max s.a t.a=s.a:=by omega
     have q2:min s.b t.b=t.b:=by omega
     have q3:decide (s.a≤t.b)=false:=decide_eq_false (by omega)
     have q3':¬s.a≤t.b:=by omega
     have q4:decide (s.b< t.b)=false:=decide_eq_false (by omega)
     have q5:¬s.b< t.b:=by omega
     go_wp2_with fail
     go_quiet (fail)
     go_wp2_with fail
     go_quiet (fail)
     go_wp2_with fail
     go_roundw
     case rel=>exact⟨i,k'+1,rfl,by go_num,rfl,by omega,by omega,HX.out.drewN _⟩
     case measure=>simp only[downV];omega
   ·
    have hkI:¬(k':Int)< (y.length:Int):=by omega
    go_wp2_with fail
    go_ret
    exact⟨rfl,hX⟩
  ·
   have hlI:¬(i:Int)< (x.length:Int):=by omega
   go_wp2_with fail
   go_ret
   exact⟨rfl,hX⟩
def restP:List Span→Int→List Span
 | [],f=>if f≤200 then [⟨f,200⟩]else []
 | p::r,f=>(if f< p.a then [⟨f,p.a - 1⟩]else [])++restP r (p.b+1)
theorem restP_law:∀(l:List Span) (lo f:Int),mayG lo l→f≤lo→(lo≤f+1)→mayG f (restP l f)∧∀v,inS (restP l f) v=(decide (f≤v∧v≤200) && !inS l v)
 | [],lo,f,_,_,_=>by
  rw[restP]
  by_cases h:f≤200
  ·
   rw[if_pos h]
   refine⟨⟨Int.le_refl _,h,Int.le_refl _,trivial⟩,fun v=> ?_⟩
   simp[inS]
  ·
   rw[if_neg h]
   refine⟨trivial,fun v=> ?_⟩
   rw[show decide (f≤v∧v≤200)=false from decide_eq_false (by omega)];rfl
 | p::r,lo,f,⟨h1,h2,h3,h4⟩,hf,hf2=>by
  obtain⟨i1,i2⟩:=restP_law r (p.b+2) (p.b+1) h4 (by omega) (by omega)
  have hout:=inS_out r _ h4
  rw[restP]
  by_cases hc:f< p.a
  ·
   rw[if_pos hc,List.singleton_append]
   refine⟨⟨Int.le_refl _,by simp only;omega,by simp only;omega,mayG_mono _ _ _ (by simp only;omega) i1⟩,fun v=> ?_⟩
   rw[inS,List.any_cons]
   have e:(restP r (p.b+1)).any (fun s=>decide (s.a≤v∧v≤s.b))=inS (restP r (p.b+1)) v:=rfl
   have e2:inS (p::r) v=(decide (p.a≤v∧v≤p.b) || inS r v):=by unfold inS;rw[List.any_cons]
   rw[e,i2,e2]
   by_cases c1:v< p.b+2
   ·
    rw[hout v (.inl c1)]
    rw[Bool.eq_iff_iff];simp;omega
   ·
    rw[show decide (p.a≤v∧v≤p.b)=false from decide_eq_false (by omega),Bool.false_or,show decide (f≤v∧v≤p.a - 1)=false from decide_eq_false (by omega),Bool.false_or]
    congr 1
    exact decide_eq_decide.2 (by omega)
  ·
   rw[if_neg hc,List.nil_append]
   refine⟨mayG_mono _ _ _ (by omega) i1,fun v=> ?_⟩
   have e2:inS (p::r) v=(decide (p.a≤v∧v≤p.b) || inS r v):=by unfold inS;rw[List.any_cons]
   rw[i2,e2]
   by_cases c1:v< p.b+2
   ·
    rw[hout v (.inl c1)]
    rw[Bool.eq_iff_iff];simp;omega
   ·
    rw[show decide (p.a≤v∧v≤p.b)=false from decide_eq_false (by omega),Bool.false_or]
    congr 1
    exact decide_eq_decide.2 (by omega)
theorem within_any (x y:List Span) (hx:mayG 1 x) (hy:mayG 1 y) (hin:∀v,inS x v=true→inS y v=true) (p q:Nat→Prop) (v u:Value) (w:World) (hyl:y.length≤1048576) (h:Rep w p v (spansD x)) (k:Rep w q u (spansD y)):
  Calls Tryz.prog 20 #[v,u] w fun e w'=>e= .returned (.bool true)∧Ext w w':=by
 have HM1:=Lh fun W (hE:Ext w W)=>may_set x p v W (h.ext hE)
 have HM2:=Lh fun W (hE:Ext w W)=>may_set y q u W (k.ext hE)
 rw[mayI_of x 1 (-1) hx (by omega) (.inl (by omega))]at HM1
 rw[mayI_of y 1 (-1) hy (by omega) (.inl (by omega))]at HM2
 obtain⟨r1,r2⟩:=restP_law y 1 1 hy (Int.le_refl _) (by omega)
 have HW:Hid (∀W,Ext w W→Calls Tryz.prog 39 #[v,u] W fun e w'=>e= .returned (.slice none 0 0)∧Ext W w'):=Lh fun W hE=>by
  have HBO:=Lh fun W' p' v' (hE':Ext w W') (hr:Rep W' p' v' (spansD (restP y 1)))=>both_none x (restP y 1) hx r1 (fun z hz=>by rw[r2,hin z hz];simp) p p' v v' W' (h.ext hE') hr
  have hk:=k.ext hE
  have hh:=h.ext hE
  obtain⟨a,c,rfl,hc1,hc2⟩:=hh.count z_span (by omega)
  obtain⟨b,d,rfl,hd1,hd2⟩:=hk.count z_span (by omega)
  obtain⟨i0,hi,hz0,hz1,hz2⟩:=info_parts infoSpan
  obtain⟨R,hR⟩:∃R,restP y 1=R:=⟨_,rfl⟩
  rw[hR]at HBO
  have HR:Hid ([]++restP (y.drop 0) 1=R):=Lh hR
  clear r1 r2 hR hx hin h k hh
  go_enter Tryz.func39,Tryz.ntmps39
  go_wp2_with fail
  refine(HM1.out _ hE).mono ?_
  rintro e w1 ⟨rfl,hB1⟩
  go_wp2_with fail
  refine(HM2.out _ (hE.trans hB1)).mono ?_
  rintro e w2 ⟨rfl,hB2⟩
  have hE2:=hB1.trans hB2
  go_wp2_with fail
  go_loopw [5,6,8,19] (fun o tf _ t wr=>∃(i:Nat) (f:Int) (L:List Span) (dv:Value),t= .int .i64 i∧tf= .int .i64 f∧dv=o∧i≤y.length∧L.length≤i∧1≤f∧f≤201∧Ext W wr∧Hid (Own wr (fun _=>False) W.heap.size 89 2 dv L.length (L.flatMap spanC)∧L++restP (y.drop i) f=R)) (fun _ _ _ t _=>downV y.length t)
  case atStart=>exact⟨0,1,[],_,rfl,rfl,rfl,Nat.zero_le _,Nat.le_refl _,Int.le_refl _,by omega,hE2,Lh ⟨Own.nil _ _ _ _ _,HR.out⟩⟩
  case round=>
   obtain⟨i,f,L,dv,rfl,rfl,rfl,hi2,hL,hf1,hf2,hX,HI⟩:=hrel
   have hi0:(0:Int)≤(i:Int):=by omega
   have hwz:=hX.size
   by_cases hlt:i< y.length
   ·
    have hlI:(i:Int)< (y.length:Int):=by omega
    obtain⟨g,o,rfl,lg,_,d0,d1⟩:=span_at (hk.ext hX) i hlt
    obtain⟨m1,m2,m3⟩:=mayG_at y 1 hy i hlt
    have hEQ:restP (y.drop i) f=(if f< y[i].a then [⟨f,y[i].a - 1⟩]else [])++restP (y.drop (i+1)) (y[i].b+1):=by rw[drop_one y i hlt,restP]
    obtain⟨s,hs⟩:∃s,y[i]=s:=⟨_,rfl⟩
    rw[hs]at d0 d1 m1 m2 m3 hEQ
    have q1:IntKind.i64.wrap (s.a - 1)=s.a - 1:=IntWalk.i64_in _ (by omega)
    have q2:IntKind.i64.wrap (s.b+1)=s.b+1:=IntWalk.i64_in _ (by omega)
    have hLl:L.length≤1048576:=by omega
    by_cases hc:f< s.a
    ·
     obtain⟨us,hrow,hreps⟩:=HI.out.1.rows
     have HN:Hid ((L++ [⟨f,s.a - 1⟩])++restP (y.drop (i+1)) (s.b+1)=R):=Lh (by rw[←HI.out.2,hEQ,if_pos hc,List.append_assoc])
     have HE1:Hid (∀w3,((wr.alloc (.cells #[.int .i64 s.a,.int .i64 s.b] 89)).alloc (.cells #[.int .i64 f,.int .i64 (s.a - 1)] 89)).grownBy w3 dv.ownBlock→w3.cell? ⟨wr.heap.size,1,none⟩=some (.int .i64 s.b)):=Lh fun w3 hg=>by
      refine(World.cell?_of_block (hg.block wr.heap.size (by simp;omega) (fun e=> ?_))).trans ?_
      ·
       have:=(own_lt hrow e).2;omega
      ·
       rw[World.cell?_of_block (Below.heap_alloc _ _ _ (by simp))];simp[go_sem]
     clear HI hEQ hs
     go_wp2_with (at_builtin;refine wpList_append_own_at _ rfl (.tmp 27) (.tmp 33) _ rfl W.heap.size 89 i0 (.agg #[.int .i64 0,.int .i64 0]) 2 16 Tryz.underlying28 hi hz0 hz1 hz2 rfl (by decide) dv L.length us rfl ((hrow.alloc _).alloc _) ⟨wr.heap.size+1,0,none⟩ 1 1 [.int .i64 f,.int .i64 (s.a - 1)] rfl rfl (by have:=new_two (w:=wr.alloc (.cells #[.int .i64 s.a,.int .i64 s.b] 89)) (a:= .int .i64 f) (b:= .int .i64 (s.a - 1)) (e:=89);rw[show(wr.alloc (.cells #[.int .i64 s.a,.int .i64 s.b] 89)).heap.size=wr.heap.size+1 by simp]at this;exact this) (by intro u hu;simp at hu;rcases hu with rfl | rfl<;> rfl) (by unfold maxLen;omega) (by omega) (by simp;omega) ?_;intro v2 w3 hown2 hgrow2 _ hat2;have e1:=HE1.out _ hgrow2)
     have hXa:Ext W (wr.alloc (.cells #[.int .i64 s.a,.int .i64 s.b] 89)):=hX.alloc _
     have hX2:Ext W w3:=hXa.grown_own (hrow.alloc _) hgrow2
     have hO2:Own w3 (fun _=>False) W.heap.size 89 2 v2 (L++ [(⟨f,s.a - 1⟩:Span)]).length ((L++ [(⟨f,s.a - 1⟩:Span)]).flatMap spanC):=by
      rw[List.length_append,List.flatMap_append]
      exact Own.push (((hreps.ext ((Ext.refl wr).alloc _)).ext ((Ext.refl _).alloc _)).ok fun b hb=>⟨hb.1,hb.2.1,by simp;omega⟩) (Reps.cons (Rep.int _ _ _ _) (Reps.cons (Rep.int _ _ _ _) (Reps.nil _ _))) hown2 hgrow2 hat2
     have HN2:=Lh (And.intro hO2 HN.out)
     clear hown2 hgrow2 hrow hreps hat2 hO2 hXa HN
     go_wp2_with fail
     go_roundw
     case rel=>exact⟨i+1,s.b+1,L++ [⟨f,s.a - 1⟩],v2,by go_num,rfl,rfl,by omega,by simp;omega,by omega,by omega,hX2,HN2⟩
     case measure=>simp only[downV];omega
    ·
     have HN:Hid (Own wr (fun _=>False) W.heap.size 89 2 dv L.length (L.flatMap spanC)∧L++restP (y.drop (i+1)) (s.b+1)=R):=Lh ⟨HI.out.1,by rw[←HI.out.2,hEQ,if_neg hc,List.nil_append]⟩
     clear HI hEQ hs
     go_wp2_with fail
     go_roundw
     case rel=>exact⟨i+1,s.b+1,L,dv,by go_num,rfl,rfl,by omega,by omega,by omega,by omega,hX.alloc _,Lh ⟨HN.out.1.ext ((Ext.refl wr).alloc _),HN.out.2⟩⟩
     case measure=>simp only[downV];omega
   ·
    have hlI:¬(i:Int)< (y.length:Int):=by omega
    have hEQ:restP (y.drop i) f=if f≤200 then [⟨f,200⟩]else []:=by rw[List.drop_of_length_le (by omega),restP]
    have hLl:L.length≤1048576:=by omega
    by_cases hc:f≤200
    ·
     obtain⟨us,hrow,hreps⟩:=HI.out.1.rows
     have HN:Hid (L++ [⟨f,200⟩]=R):=Lh (by rw[←HI.out.2,hEQ,if_pos hc])
     clear HI hEQ
     go_wp2_with (at_builtin;refine wpList_append_own_at _ rfl (.tmp 41) (.tmp 44) _ rfl W.heap.size 89 i0 (.agg #[.int .i64 0,.int .i64 0]) 2 16 Tryz.underlying28 hi hz0 hz1 hz2 rfl (by decide) dv L.length us rfl (hrow.alloc _) ⟨wr.heap.size,0,none⟩ 1 1 [.int .i64 f,.int .i64 200] rfl rfl new_two (by intro u hu;simp at hu;rcases hu with rfl | rfl<;> rfl) (by unfold maxLen;omega) (by omega) (by simp;omega) ?_;intro v2 w3 hown2 hgrow2 _ hat2)
     have hX2:Ext W w3:=hX.grown_own hrow hgrow2
     have hO2:Own w3 (fun _=>False) W.heap.size 89 2 v2 (L++ [(⟨f,200⟩:Span)]).length ((L++ [(⟨f,200⟩:Span)]).flatMap spanC):=by
      rw[List.length_append,List.flatMap_append]
      exact Own.push ((hreps.ext ((Ext.refl wr).alloc _)).ok fun b hb=>⟨hb.1,hb.2.1,by simp;omega⟩) (Reps.cons (Rep.int _ _ _ _) (Reps.cons (Rep.int _ _ _ _) (Reps.nil _ _))) hown2 hgrow2 hat2
     have hrep:=hO2.rep
     rw[HN.out]at hrep
     have HC:=Lh (HBO.out w3 _ v2 (hE.trans hX2) hrep)
     clear hown2 hgrow2 hrow hreps hat2 hO2 hrep
     go_wp2_with fail
     refine HC.out.mono ?_
     rintro e w4 ⟨rfl,hB4⟩
     go_wp2_with fail
     go_ret
     exact⟨rfl,hX2.trans hB4⟩
    ·
     have HN:L=R:=by rw[←HI.out.2,hEQ,if_neg hc,List.append_nil]
     have hrep:=HI.out.1.rep
     rw[HN]at hrep
     have HC:=Lh (HBO.out wr _ dv (hE.trans hX) hrep)
     clear HI hEQ hrep HN
     go_wp2_with fail
     refine HC.out.mono ?_
     rintro e w4 ⟨rfl,hB4⟩
     go_wp2_with fail
     go_ret
     exact⟨rfl,hX.trans hB4⟩
 obtain⟨a,c,rfl,hc1,hc2⟩:=h.count z_span (by omega)
 obtain⟨b,d,rfl,hd1,hd2⟩:=k.count z_span (by omega)
 clear h k hx hy hin r1 r2
 go_enter Tryz.func20,Tryz.ntmps20
 go_wp2_with fail
 refine(HM1.out _ (Ext.refl _)).mono ?_
 rintro e w1 ⟨rfl,hB1⟩
 go_wp2_with fail
 refine(HM2.out _ hB1).mono ?_
 rintro e w2 ⟨rfl,hB2⟩
 go_wp2_with fail
 refine(HW.out _ (hB1.trans hB2)).mono ?_
 rintro e w3 ⟨rfl,hB3⟩
 go_wp2_with fail
 go_ret
 exact⟨rfl,(hB1.trans hB2).trans hB3⟩
section
variable {ev:Operand→Value} {oi:Oper} {x y lo hi:Operand} {s:List UInt8} {i j:Nat} {t u:TypeId} {k:IntKind} {B:Bool}
theorem exec_seql (ho:oi.op= .binOp .eql t x y u) {s':List UInt8} (hx:ev x= .string (bs s)) (hy:ev y= .string (bs s')) (h:(s==s')=B) (W:World):(execOp ev oi).run Tryz.prog W= .ok (.value (.bool B)) W:=by
 subst h;simp only[execOp,ho,hx,hy];simp[go_sem,bs_eqv]
end
open Go.Deep
section
variable {H:Type} {enc:TypeId×Value→H} {w:World} {base:Nat} {held:Bool}
theorem two_of {α:Type}:∀{l:List α},l.length=2→∃a b,l= [a,b]
 | [a,b],_=>⟨a,b,rfl⟩
theorem cellsPair:Tryz.prog.cellsOf 56=2:=by kernel_rfl
theorem cellsStr:Tryz.prog.cellsOf 9=1:=by kernel_rfl
theorem open_pair {n:Nat} {cs:List Value} {x:DataW H×List MemPlace} (h:DataW.trod enc Tryz.prog w base (fun _=>true) held n 56 cs=some x):∃(a b:Bytes),cs= [.string (bs a),.string (bs b)]∧a.length+b.length≤Rows.uptoBulk x.1:=by
 obtain⟨xs,m,rfl,rfl,hl,hxl,hf⟩:=DataW.trod_array Tryz.underlying56 h
 rw[cellsPair]at hl
 rw[cellsStr]at hf
 obtain⟨c0,c1,rfl⟩:∃c0 c1,cs= [c0,c1]:=two_of hl
 match xs,hxl with
 | [y0,y1],_=>
  have f0:DataW.trod enc Tryz.prog w base (fun _=>true) held m 9 [c0]=some y0:=hf 0 (by decide)
  have f1:DataW.trod enc Tryz.prog w base (fun _=>true) held m 9 [c1]=some y1:=hf 1 (by decide)
  obtain⟨n1,r1,e1⟩:=open_bytes Tryz.underlying9 f0
  obtain⟨n2,r2,e2⟩:=open_bytes Tryz.underlying9 f1
  refine⟨n1,n2,by rw[bs_is r1,bs_is r2],?_⟩
  simp only[List.map_cons,List.map_nil,e1,e2,Rows.uptoBulk,Rows.uptoBulkAll]
  omega
end
open Go.ChangeShapes Go.WideShapes Go.ChangeAt
theorem arr_arg {W:World} {t e:TypeId} {n:Nat} {v:Value} (ht:Tryz.prog.underlying t=some (.array n e)) (hval:Value.okWide Tryz.prog W .any 0 t v):∃cs,v= .agg cs:=by
 unfold Value.okWide at hval
 rw[ht]at hval
 obtain⟨cs,h,_⟩:=hval
 exact⟨cs,h⟩
theorem mayG_len:∀(l:List Span) (lo:Int),lo≤202→mayG lo l→(l.length:Int)≤202 - lo
 | [],lo,h,_=>by simp;omega
 | s::r,lo,h,⟨h1,h2,h3,h4⟩=>by
  have:=mayG_len r (s.b+2) (by omega) h4
  rw[List.length_cons]
  omega
theorem versS_len (PS:List IR) (p:Bytes) (f:Mk→Bool):(versS PS p f).length≤1048576:=by
 have:=mayG_len _ 1 (by omega) (spansOf_may (flOf (versR PS p f)))
 unfold versS
 omega
theorem isPre_app:∀a b s:Bytes,(a++b).isPrefixOf s=true→a.isPrefixOf s=true
 | [],_,_,_=>by simp[List.isPrefixOf]
 | x::a,b,[],h=>by simp[List.isPrefixOf]at h
 | x::a,b,y::s,h=>by
  rw[List.cons_append,List.isPrefixOf,Bool.and_eq_true]at h
  rw[List.isPrefixOf,h.1,isPre_app a b s h.2];rfl
theorem hasP_left:∀(s a b:Bytes),hasP s (a++b)=true→hasP s a=true
 | [],a,b,h=>by
  unfold hasP at h⊢
  rw[Bool.or_false]at h⊢
  exact isPre_app a b [] h
 | x::s,a,b,h=>by
  unfold hasP at h⊢
  rw[Bool.or_eq_true]at h⊢
  rcases h with h | h
  ·
   exact .inl (isPre_app a b _ h)
  ·
   exact .inr (hasP_left s a b h)
theorem hasP_pre:∀(a b s:Bytes),(a++b).isPrefixOf s=true→hasP s b=true
 | [],b,s,h=>by
  unfold hasP
  rw[Bool.or_eq_true]
  exact .inl h
 | x::a,b,[],h=>by simp[List.isPrefixOf]at h
 | x::a,b,y::s,h=>by
  rw[List.cons_append,List.isPrefixOf,Bool.and_eq_true]at h
  unfold hasP
  rw[Bool.or_eq_true]
  exact .inr (hasP_pre a b s h.2)
theorem hasP_right:∀(s a b:Bytes),hasP s (a++b)=true→hasP s b=true
 | [],a,b,h=>by
  unfold hasP at h
  rw[Bool.or_false]at h
  exact hasP_pre a b [] h
 | x::s,a,b,h=>by
  unfold hasP at h
  rw[Bool.or_eq_true]at h
  rcases h with h | h
  ·
   exact hasP_pre a b _ h
  ·
   unfold hasP
   rw[Bool.or_eq_true]
   exact .inr (hasP_right s a b h)
theorem hasP_nil:∀s:Bytes,hasP s []=true
 | []=>by unfold hasP;simp[List.isPrefixOf]
 | x::s=>by unfold hasP;simp[List.isPrefixOf]
theorem ask_imp {s t:Bytes} (h:∀x:Bytes,hasP x s=true→hasP x t=true) (m:Mk) (hm:askF 1 0 s m=true):askF 1 0 t m=true:=by
 unfold askF at hm⊢
 rw[if_neg (by omega),if_pos rfl,Bool.and_eq_true,Bool.and_eq_true]at hm⊢
 exact⟨hm.1,hm.2.1,h _ hm.2.2⟩
theorem mem_traces {PS:List IR} {f:Mk→Bool} {x:Trc}:x∈tracesL PS f↔x.p∈pathsL PS∧versS PS x.p f≠ []∧x.s=versS PS x.p f:=by
 unfold tracesL
 rw[List.mem_filterMap]
 constructor
 ·
  rintro⟨p,hp,he⟩
  split at he
  ·
   cases he
  ·
   rename_i hn;cases he;exact⟨hp,hn,rfl⟩
 ·
  rintro⟨h1,h2,h3⟩
  exact⟨x.p,h1,by rw[if_neg h2,←h3]⟩
theorem vers_sub {PS:List IR} {f g:Mk→Bool} (h:∀m,f m=true→g m=true) (p:Bytes) (v:Int) (hv:inS (versS PS p f) v=true):inS (versS PS p g) v=true:=by
 unfold versS at hv⊢
 rw[inS_of,Bool.and_eq_true]at hv⊢
 refine⟨hv.1,?_⟩
 have h2:=(flOf_mem _ _).1 hv.2
 refine(flOf_mem _ _).2 ⟨h2.1,h2.2.1,?_⟩
 obtain⟨x,hx,h3,h4,h5⟩:=mem_versR.1 h2.2.2
 exact mem_versR.2 ⟨x,hx,h3,h4,h _ h5⟩
theorem trace_sub {PS:List IR} {f g:Mk→Bool} (h:∀m,f m=true→g m=true) {x:Trc} (hx:x∈tracesL PS f):∃y∈tracesL PS g,y.p=x.p:=by
 obtain⟨h1,h2,h3⟩:=mem_traces.1 hx
 refine⟨⟨x.p,versS PS x.p g⟩,mem_traces.2 ⟨h1,fun e=> ?_,rfl⟩,rfl⟩
 have e:versS PS x.p g= []:=e
 have hm:=spansOf_may (flOf (versR PS x.p f))
 have hne:spansOf (flOf (versR PS x.p f))≠ []:=h2
 cases hs:spansOf (flOf (versR PS x.p f))with
 | nil=>exact hne hs
 | cons s r=>
  rw[hs]at hm
  have hv:inS (versS PS x.p f) s.a=true:=by
   unfold versS
   rw[hs,inS,List.any_cons,Bool.or_eq_true]
   exact .inl (decide_eq_true ⟨Int.le_refl _,hm.2.1⟩)
  have:=vers_sub h x.p s.a hv
  rw[e]at this
  cases this
theorem trace_in {PS:List IR} {f g:Mk→Bool} (h:∀m,f m=true→g m=true) {x y:Trc} (hx:x∈tracesL PS f) (hy:y∈tracesL PS g) (e:y.p=x.p):mayG 1 x.s∧mayG 1 y.s∧(∀v,inS x.s v=true→inS y.s v=true)∧y.s.length≤1048576:=by
 obtain⟨_,_,h3⟩:=mem_traces.1 hx
 obtain⟨_,_,k3⟩:=mem_traces.1 hy
 rw[h3,k3,e]
 exact⟨spansOf_may _,spansOf_may _,vers_sub h x.p,versS_len _ _ _⟩
end Go.Proofs.YtngmgjodcnknoaaGreatDoor
