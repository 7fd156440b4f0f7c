/-
 Laws drawn from elder texts. Helper lemmas;no statement of the seat is proved here.
-/
import Derived.Test.YtngmgjodcnknoaaGreatDoorU4
namespace Go.Proofs.YtngmgjodcnknoaaGreatDoor
open Go.RowKit
set_option maxHeartbeats 32000000
set_option maxRecDepth 100000
set_option linter.unusedVariables false
set_option linter.unusedSimpArgs false
theorem value_any (a:Node) (path:Bytes) (p:Nat→Prop) (va vk:Value) (w:World) (hcnt:cntN a≤1048576) (hpl:path.length≤1048576) (hne:path≠ [46]→∀c∈splitS 47 [] path,c≠ [])
  (hva:Rep w p va (attrsD a.attrs)) (hvk:Rep w p vk (nodesD a.kids)):
  Calls Tryz.prog 137 #[.agg #[.int .i64 a.kind,.string (bs a.name),.string (bs a.text),va,vk],.string (bs path)] w fun e w'=>e= .returned (OutV (valS a path))∧Ext w w':=by
 have hck:=cnt_kids a
 by_cases hp:path= [46]
 ·
  subst hp
  have HC:=Lh fun W (hE:Ext w W)=>nodestxt_any a.kids p vk W kA (hvk.ext hE)
  have e:valS a [46]=some (txtL a.kids):=by unfold valS;rw[if_pos rfl]
  rw[e]
  obtain⟨T,hT⟩:∃T,txtL a.kids=T:=⟨_,rfl⟩
  rw[hT]at HC⊢
  obtain⟨ba,ca,rfl,ha1,ha2⟩:=hva.count z_attr kA
  obtain⟨bk,ck,rfl,hk1,hk2⟩:=hvk.count z_node kA
  have e1:(bs [46]).toList= [46]:=bs_toList _
  have e2:((bs [46]).toList==(⟨#[46]⟩:ByteArray).toList)=true:=by rw[show(⟨#[46]⟩:ByteArray)=bs [46] from rfl];exact beq_self_eq_true _
  clear hT e hva hvk hck hcnt hne hpl
  go_enter Tryz.func137,Tryz.ntmps137
  go_wp2_with fail
  refine(HC.out _ ((Ext.refl w).alloc _)).mono ?_
  rintro e w1 ⟨rfl,hB1⟩
  go_wp2_with fail
  go_ret2
  exact⟨rfl,((Ext.refl w).alloc _).trans hB1⟩
 ·
  have e:valS a path=walkV a (splitS 47 [] path):=by unfold valS;rw[if_neg hp]
  rw[e]
  have HNE:=Lh (hne hp)
  have HSP:=Lh fun W=>split_any path 47 W hpl
  obtain⟨cs,hcs⟩:∃cs,splitS 47 [] path=cs:=⟨_,rfl⟩
  rw[hcs]at HNE HSP⊢
  obtain⟨R,hR⟩:∃R,walkV a cs=R:=⟨_,rfl⟩
  rw[hR]
  have HR:=Lh hR
  have e2:((bs path).toList==(⟨#[46]⟩:ByteArray).toList)=false:=by
   rw[show(⟨#[46]⟩:ByteArray)=bs [46] from rfl,bs_toList,bs_toList,beq_eq_false_iff_ne];exact hp
  have e1:((bs path).toList== [46])=false:=by rw[bs_toList,beq_eq_false_iff_ne];exact hp
  obtain⟨ba,ca,rfl,ha1,ha2⟩:=hva.count z_attr kA
  obtain⟨bk,ck,rfl,hk1,hk2⟩:=hvk.count z_node kA
  clear hR hcs e hne hp hpl hck
  go_enter Tryz.func137,Tryz.ntmps137
  go_wp2_with fail
  obtain⟨w1,hw1⟩:∃w1,(w.alloc (.cells #[.int .i64 a.kind,.string (bs a.name),.string (bs a.text),.slice ba a.attrs.length ca,.slice bk a.kids.length ck] 66))=w1:=⟨_,rfl⟩
  have hE1:Ext w w1:=by rw[←hw1];exact(Ext.refl w).alloc _
  have hz1:w1.heap.size=w.heap.size+1:=by rw[←hw1];simp
  have hbx:B5 w1 w.heap.size a (.slice ba a.attrs.length ca) (.slice bk a.kids.length ck):=by
   rw[←hw1]
   exact⟨by simp,by simp[go_sem],by simp[go_sem],by simp[go_sem],by simp[go_sem],by simp[go_sem],by simp[go_sem],by simp[go_sem],by simp[go_sem],by simp[go_sem],by simp[go_sem]⟩
  have HBX:=Lh hbx
  have HZ1:=Lh hz1
  rw[hw1]
  clear hw1 hbx hz1
  refine(HSP.out _).mono ?_
  rintro e w2 ⟨⟨v6,rfl,hr6⟩,hB2⟩
  obtain⟨a6,c6,rfl,h61,h62⟩:=hr6.count z_str kA
  have HB2:=Lh (HBX.out.ext hB2)
  have hE2:=hE1.trans hB2
  clear hB2 HBX HSP
  go_wp2_with fail
  go_loopw [7,8,9,10,11] (fun t _ _ _ _ wr=>∃(i:Nat) (m:Node) (xa xk:Value),t= .int .i64 i∧i≤cs.length∧Ext w wr∧Hid (B5 wr w.heap.size m xa xk∧Rep w p xa (attrsD m.attrs)∧Rep w p xk (nodesD m.kids)∧cntN m≤1048576∧Mid w1.heap.size w2 wr∧walkV m (cs.drop i)=R)) (fun t _ _ _ _ _=>downV cs.length t)
  case atStart=>exact⟨0,a,_,_,rfl,Nat.zero_le _,hE2,Lh ⟨HB2.out,hva,hvk,hcnt,⟨Nat.le_refl _,fun _ _ _=>rfl⟩,HR.out⟩⟩
  case round=>
   obtain⟨i,m,xa,xk,rfl,hi,hX,HH⟩:=hrel
   clear HB2 hva hvk hcnt HR
   obtain⟨hb5,hxa,hxk,hcm,hmid,hw⟩:=HH.out
   clear HH
   obtain⟨xab,xac,rfl,_,_⟩:=hxa.count z_attr kA
   obtain⟨xkb,xkc,rfl,_,_⟩:=hxk.count z_node kA
   have hck:=cnt_kids m
   have hckl:=cntL_len m.kids
   have c0:=hb5.c0;have c1:=hb5.c1;have c2:=hb5.c2;have c3:=hb5.c3;have c4:=hb5.c4
   have f0:=hb5.f0;have f1:=hb5.f1;have f2:=hb5.f2;have f3:=hb5.f3;have f4:=hb5.f4
   have lb:=hb5.lt
   have hi0:=nZ0 i
   by_cases hlt:i< cs.length
   ·
    have hlI:(i:Int)< (cs.length:Int):=by omega
    obtain⟨g6,o6,rfl,lg6,_,hc6⟩:=str_at (hr6.mid hmid) i hlt
    have hcne:cs[i]≠ []:=HNE.out _ (List.getElem_mem hlt)
    have HS:Hid (walkV m (cs.drop i)=if cs[i].getD 0 0=64 then attrGet (cs[i].drop 1) m.attrs else if(manyK cs[i] m.kids 0 zeroN).1=1 then walkV (manyK cs[i] m.kids 0 zeroN).2 (cs.drop (i+1))else none):=Lh (by rw[drop_one cs i hlt,walkV])
    have hclen:cs[i].length≤9223372036854775807:=strs_len hr6 i hlt
    obtain⟨c,hc⟩:∃c,cs[i]=c:=⟨_,rfl⟩
    rw[hc]at hc6 hcne HS hclen
    clear hc
    have hs0:0< (bs c).size:=by rw[bs_size];exact List.length_pos_iff.2 hcne
    have hsm:(bs c).size≤9223372036854775807:=by rw[bs_size];exact hclen
    have h0:(bs c)[0]'hs0=c.getD 0 0:=by
     rw[bs_getE,List.getD_eq_getElem?_getD,List.getElem?_eq_getElem (by rw[bs_size]at hs0;exact hs0)];rfl
    by_cases h64:c.getD 0 0=64
    ·
     have hq:((((bs c)[0]'hs0).toNat:Int)==64)=true:=by rw[h0,h64];rfl
     have HA:Hid (attrGet (c.drop 1) m.attrs=R):=Lh (by rw[←hw,HS.out,if_pos h64])
     have hx1:(bs c).extract 1 (bs c).size=bs (c.drop 1):=by rw[bs_extract,bs_size,List.take_of_length_le (by rw[List.length_drop];exact Nat.le_refl _)]
     obtain⟨x,hx⟩:∃x,c.drop 1=x:=⟨_,rfl⟩
     rw[hx]at HA hx1
     clear HS hw h64 h0 hx hmid hxk hck hckl hcm c0 c1 c2 c4 f0 f1 f2 f3 f4 hb5 hcne hclen
     obtain⟨wz,hwz⟩:∃wz,wz=wr:=⟨_,rfl⟩
     subst hwz
     go_wp2_with fail
     go_loopw [8] (fun t wq=>∃k:Nat,t= .int .i64 k∧k≤m.attrs.length∧Dr wz wq∧Hid (attrGet x (m.attrs.drop k)=R)) (fun t _=>downV m.attrs.length t)
     case atStart=>exact⟨0,rfl,Nat.zero_le _,Dr.refl _,HA⟩
     case round=>
      obtain⟨k,rfl,hk,hD,HK⟩:=hrel
      have hk0:=nZ0 k
      have c3q:=hD.ext.keep lb c3
      have c6q:=hD.ext.keep lg6 hc6
      by_cases hkl:k< m.attrs.length
      ·
       have hkI:(k:Int)< (m.attrs.length:Int):=by omega
       obtain⟨ga,oa,rfl,lga,_,d1,d2⟩:=attr_at (hxa.ext (hX.trans hD.ext)) k hkl
       have HKS:Hid (attrGet x (m.attrs.drop k)=if m.attrs[k].n=x then some m.attrs[k].v else attrGet x (m.attrs.drop (k+1))):=Lh (by rw[drop_one m.attrs k hkl,attrGet])
       obtain⟨y,hy⟩:∃y,m.attrs[k]=y:=⟨_,rfl⟩
       rw[hy]at d1 d2 HKS
       have HD:=Lh hD
       clear hy hD
       by_cases hyx:y.n=x
       ·
        have q1:((bs y.n).toList==(bs x).toList)=true:=by rw[bs_toList,bs_toList,hyx];exact beq_self_eq_true _
        have HN:Hid (some y.v=R):=Lh (by rw[←HK.out,HKS.out,if_pos hyx])
        clear HK HKS hyx
        go_wp2_with fail
        go_quiet (fail)
        go_wp2_with fail
        go_ret2
        exact⟨by rw[←HN.out];rfl,hX.trans (HD.out.ext.drewN _)⟩
       ·
        have q1:((bs y.n).toList==(bs x).toList)=false:=by rw[bs_toList,bs_toList,beq_eq_false_iff_ne];exact hyx
        have HN:Hid (attrGet x (m.attrs.drop (k+1))=R):=Lh (by rw[←HK.out,HKS.out,if_neg hyx])
        clear HK HKS hyx
        go_wp2_with fail
        go_quiet (fail)
        go_wp2_with fail
        go_roundw
        case rel=>exact⟨k+1,by go_num,by omega,HD.out.drewN _,HN⟩
        case measure=>exact mZ
      ·
       have hkI:¬(k:Int)< (m.attrs.length:Int):=by omega
       have HN:Hid (none=R):=Lh (by rw[←HK.out,List.drop_of_length_le kA];rfl)
       clear HK
       go_wp2_with fail
       go_ret2
       exact⟨by rw[←HN.out];rfl,hX.trans hD.ext⟩
    ·
     have hq:((((bs c)[0]'hs0).toNat:Int)==64)=false:=by
      rw[h0,beq_eq_false_iff_ne];intro e;exact h64 (UInt8.toNat_inj.1 (by show _=64;omega))
     have HA:Hid ((if(manyK c m.kids 0 zeroN).1=1 then walkV (manyK c m.kids 0 zeroN).2 (cs.drop (i+1))else none)=R):=Lh (by rw[←hw,HS.out,if_neg h64])
     have hML:=manyK_le c m.kids 0 zeroN
     have hMC:=manyK_cnt c m.kids 0 zeroN 1048576 kA kD
     obtain⟨M,hM⟩:∃M,manyK c m.kids 0 zeroN=M:=⟨_,rfl⟩
     rw[hM]at HA hML hMC
     have HM:=Lh hM
     have hkids:m.kids.length≤1048576:=by omega
     clear HS hw h64 h0 hcne hclen hM hck
     obtain⟨wz,hwz⟩:∃wz,wz=wr:=⟨_,rfl⟩
     subst hwz
     go_wp2_with fail
     obtain⟨w3,hw3⟩:∃w3,(wz.alloc (.cells #[.int .i64 0,.string ⟨#[]⟩,.string ⟨#[]⟩,.slice none 0 0,.slice none 0 0] 66))=w3:=⟨_,rfl⟩
     have hE3:Ext wz w3:=by rw[←hw3];exact(Ext.refl wz).alloc _
     have hnx:B5 w3 wz.heap.size zeroN (.slice none 0 0) (.slice none 0 0):=by
      rw[←hw3]
      exact⟨by simp,by simp[go_sem,zeroN,Node.kind],by simp[go_sem,zeroN,Node.name];rfl,by simp[go_sem,zeroN,Node.text];rfl,by simp[go_sem],by simp[go_sem],by simp[go_sem],by simp[go_sem],by simp[go_sem],by simp[go_sem],by simp[go_sem]⟩
     have HNX:=Lh hnx
     rw[hw3]
     clear hw3 hnx
     have hz12:w2.heap.size≤wz.heap.size:=hmid.1
     go_loopw [9,11] (fun mm t wq=>∃(k j:Nat) (nx:Node) (ya yk:Value),t= .int .i64 k∧mm= .int .i64 j∧k≤m.kids.length∧j≤k∧Ext wz wq∧Hid (B5 wq wz.heap.size nx ya yk∧Rep w p ya (attrsD nx.attrs)∧Rep w p yk (nodesD nx.kids)∧manyK c (m.kids.drop k) j nx=M)) (fun _ t _=>downV m.kids.length t)
     case atStart=>exact⟨0,0,zeroN,_,_,rfl,rfl,Nat.zero_le _,Nat.le_refl _,hE3,Lh ⟨HNX.out,.nil 2,.nil 5,HM.out⟩⟩
     case round=>
      obtain⟨k,j,nx,ya,yk,rfl,rfl,hk,hj,hQ,HQ⟩:=hrel
      have hk0:=nZ0 k
      have hj0:=nZ0 j
      have hjk:(j:Int)≤(k:Int):=by omega
      have hkb:(k:Int)≤1048576:=by omega
      have hb5q:=hb5.ext hQ
      have c3q:=hb5q.c3
      have c4q:=hb5q.c4
      have lbq:=hb5q.lt
      have c6q:=hQ.keep lg6 hc6
      have lg6q:=Nat.lt_of_lt_of_le lg6 hQ.size
      by_cases hkl:k< m.kids.length
      ·
       have hkI:(k:Int)< (m.kids.length:Int):=by omega
       obtain⟨gk,ok,za,zk,hgk,lgk,_,d0,d1,d2,d3,d4,hza,hzk⟩:=node_at hxk k hkl
       obtain rfl:=hgk
       have hEw:=hX.trans hQ
       have e0:=hEw.keep lgk d0
       have e1:=hEw.keep lgk d1
       have e2:=hEw.keep lgk d2
       have e3:=hEw.keep lgk d3
       have e4:=hEw.keep lgk d4
       obtain⟨hnx,hya,hyk,hmk⟩:=HQ.out
       have HKS:Hid (manyK c (m.kids.drop k) j nx=if m.kids[k].kind=1∧m.kids[k].name=c then manyK c (m.kids.drop (k+1)) (j+1) m.kids[k]else manyK c (m.kids.drop (k+1)) j nx):=Lh (by rw[drop_one m.kids k hkl,manyK])
       obtain⟨x,hx⟩:∃x,m.kids[k]=x:=⟨_,rfl⟩
       rw[hx]at e0 e1 e2 hza hzk HKS
       obtain⟨zab,zac,rfl,_,_⟩:=hza.count z_attr kA
       obtain⟨zkb,zkc,rfl,_,_⟩:=hzk.count z_node kA
       have n0:=hnx.c0;have n1:=hnx.c1;have n2:=hnx.c2;have n3:=hnx.c3;have n4:=hnx.c4
       have z0:=hnx.f0;have z1:=hnx.f1;have z2:=hnx.f2;have z3:=hnx.f3;have z4:=hnx.f4
       have hQQ:=Lh hQ
       clear hx d0 d1 d2 d3 d4 HQ HNX hEw HM
       by_cases hk1:x.kind=1
       ·
        have q1:(x.kind==1)=true:=by rw[hk1];rfl
        by_cases hnm:x.name=c
        ·
         have q2:((bs x.name).toList==(bs c).toList)=true:=by rw[bs_toList,bs_toList,hnm];exact beq_self_eq_true _
         have HN:Hid (manyK c (m.kids.drop (k+1)) (j+1) x=M):=Lh (by rw[←hmk,HKS.out,if_pos ⟨hk1,hnm⟩])
         clear HKS hmk hk1 hnm hQ
         go_wp2_with fail
         go_quiet (fail)
         go_wp2_with fail
         go_roundw
         case rel=>exact⟨k+1,j+1,x,_,_,by go_num,by go_num,by omega,by omega,(hQQ.out.drewN _).st5 (Nat.le_refl _) x _ _,Lh ⟨(hnx.ext ((Ext.refl _).drewN _)).put,hza,hzk,HN.out⟩⟩
         case measure=>exact mZ
        ·
         have q2:((bs x.name).toList==(bs c).toList)=false:=by rw[bs_toList,bs_toList,beq_eq_false_iff_ne];exact hnm
         have HN:Hid (manyK c (m.kids.drop (k+1)) j nx=M):=Lh (by rw[←hmk,HKS.out,if_neg (fun h=>hnm h.2)])
         clear HKS hmk hk1 hnm hQ
         go_wp2_with fail
         go_quiet (fail)
         go_wp2_with fail
         go_roundw
         case rel=>exact⟨k+1,j,nx,_,_,by go_num,rfl,by omega,by omega,hQQ.out.drewN _,Lh ⟨hnx.ext ((Ext.refl _).drewN _),hya,hyk,HN.out⟩⟩
         case measure=>exact mZ
       ·
        have q1:(x.kind==1)=false:=by rw[beq_eq_false_iff_ne];exact hk1
        have HN:Hid (manyK c (m.kids.drop (k+1)) j nx=M):=Lh (by rw[←hmk,HKS.out,if_neg (fun h=>hk1 h.1)])
        clear HKS hmk hk1 hQ
        go_wp2_with fail
        go_quiet (fail)
        go_wp2_with fail
        go_roundw
        case rel=>exact⟨k+1,j,nx,_,_,by go_num,rfl,by omega,by omega,hQQ.out.drewN _,Lh ⟨hnx.ext ((Ext.refl _).drewN _),hya,hyk,HN.out⟩⟩
        case measure=>exact mZ
      ·
       have hkI:¬(k:Int)< (m.kids.length:Int):=by omega
       obtain⟨hnx,hya,hyk,hmk⟩:=HQ.out
       rw[List.drop_of_length_le kA]at hmk
       have hM:M=(j,nx):=by rw[←hmk];rfl
       subst hM
       clear HQ HM HNX hmk
       by_cases hj1:j=1
       ·
        subst hj1
        have hj1I:((1:Int) !=1)=false:=by rfl
        have HN:Hid (walkV nx (cs.drop (i+1))=R):=Lh (by rw[←HA.out,if_pos rfl])
        obtain⟨yab,yac,rfl,_,_⟩:=hya.count z_attr kA
        obtain⟨ykb,ykc,rfl,_,_⟩:=hyk.count z_node kA
        have n0:=hnx.c0;have n1:=hnx.c1;have n2:=hnx.c2;have n3:=hnx.c3;have n4:=hnx.c4
        have p0:=hb5q.c0;have p1:=hb5q.c1;have p2:=hb5q.c2
        have t0:=hb5q.f0;have t1:=hb5q.f1;have t2:=hb5q.f2;have t3:=hb5q.f3;have t4:=hb5q.f4
        have HF:=Lh (And.intro hb5q (And.intro hya (And.intro hyk (And.intro hMC (And.intro (hmid.ext hQ) (hX.trans hQ))))))
        have hlo:w.heap.size< w1.heap.size:=by have:=HZ1.out;omega
        clear HA hya hyk hMC hmid hML
        go_wp2_with fail
        go_roundw
        case rel=>exact⟨i+1,nx,_,_,by go_num,by omega,HF.out.2.2.2.2.2.st5 (Nat.le_refl _) nx _ _,Lh ⟨HF.out.1.put,HF.out.2.1,HF.out.2.2.1,HF.out.2.2.2.1,HF.out.2.2.2.2.1.st5 hlo nx _ _,HN.out⟩⟩
        case measure=>exact mZ
       ·
        have hj1I:((j:Int) !=1)=true:=by rw[bne_iff_ne];omega
        have HN:Hid (none=R):=Lh (by rw[←HA.out,if_neg hj1])
        clear HA hya hyk hMC hmid hML hj1
        go_wp2_with fail
        go_ret2
        exact⟨by rw[←HN.out];rfl,hX.trans hQ⟩
   ·
    have hlI:¬(i:Int)< (cs.length:Int):=by omega
    have HN:Hid (some (txtL m.kids)=R):=Lh (by rw[←hw,List.drop_of_length_le kA,walkV])
    have HC:=Lh fun W (hE:Ext wr W)=>nodestxt_any m.kids p _ W kA (hxk.ext (hX.trans hE))
    obtain⟨T,hT⟩:∃T,txtL m.kids=T:=⟨_,rfl⟩
    rw[hT]at HC HN
    clear hT hw hmid hck hckl hcm hxa hxk
    go_wp2_with fail
    refine(HC.out _ (Ext.refl _)).mono ?_
    rintro e w3 ⟨rfl,hB3⟩
    go_wp2_with fail
    go_ret2
    exact⟨by rw[←HN.out];rfl,hX.trans hB3⟩
def pathOk (k:Bytes):Prop:=k.length≤1048576∧(k≠ [46]→∀c∈splitS 47 [] k,c≠ [])
def keyS (n:Node):List Bytes→Option (List Bytes)
 | []=>some []
 | k::r=>match valS n k with
  | none=>none
  | some v=>(keyS n r).map (v:: ·)
theorem attrGet_len (x:Bytes):∀(l:List Attr) (v:Bytes),attrGet x l=some v→v.length≤cntA l
 | [],v,h=>by simp[attrGet]at h
 | a::r,v,h=>by
  unfold attrGet at h
  rw[cntA]
  split at h
  ·
   cases h;omega
  ·
   have:=attrGet_len x r v h;omega
theorem walkV_len:∀(cs:List Bytes) (n:Node) (v:Bytes),cntN n≤1048576→walkV n cs=some v→v.length≤12582912
 | [],n,v,hn,h=>by
  rw[walkV]at h;cases h
  have h1:=txtL_len n.kids
  have h2:=cnt_kids n
  omega
 | c::cs,n,v,hn,h=>by
  have h2:=cnt_kids n
  rw[walkV]at h
  split at h
  ·
   have:=attrGet_len _ _ _ h;omega
  ·
   split at h
   ·
    exact walkV_len cs _ v (manyK_cnt c n.kids 0 zeroN 1048576 kA kD) h
   ·
    cases h
theorem valS_len (n:Node) (k v:Bytes) (hn:cntN n≤1048576) (h:valS n k=some v):v.length≤12582912:=by
 unfold valS at h
 split at h
 ·
  cases h
  have h1:=txtL_len n.kids
  have h2:=cnt_kids n
  omega
 ·
  exact walkV_len _ n v hn h
theorem keyS_step (n:Node):∀(L:List Bytes) (k:Bytes) (r:List Bytes),(keyS n (k::r)).map (L++ ·)=match valS n k with | none=>none | some v=>(keyS n r).map ((L++ [v])++ ·):=fun L k r=>by
 rw[keyS]
 cases valS n k with
 | none=>rfl
 | some v=>cases keyS n r<;> simp
def RetB (p:Nat→Prop) (D:DV) (b:Bool) (e:Ending) (w':World):Prop:=∃v,e= .returned (.tuple #[v,.bool b])∧Rep w' p v D
theorem key_any (ks xp:List Bytes) (a:Node) (p q:Nat→Prop) (vp vk va vn:Value) (w:World) (hcnt:cntN a≤1048576) (hks:ks.length≤1048576) (hok:∀k∈ks,pathOk k)
  (hvp:Rep w q vp (strsD xp)) (hvk:Rep w q vk (strsD ks)) (hva:Rep w p va (attrsD a.attrs)) (hvn:Rep w p vn (nodesD a.kids)):
  Calls Tryz.prog 100 #[.agg #[vp,vk],.agg #[.int .i64 a.kind,.string (bs a.name),.string (bs a.text),va,vn]] w fun e w'=>RetB (fun b=>w.heap.size≤b) (strsD ((keyS a ks).getD [])) (keyS a ks).isSome e w'∧Ext w w':=by
 obtain⟨pa,pc,rfl,_,_⟩:=hvp.count z_str kA
 obtain⟨ka,kc,rfl,hkc1,hkc2⟩:=hvk.count z_str kA
 obtain⟨ba,ca,rfl,_,_⟩:=hva.count z_attr kA
 obtain⟨bn,cn,rfl,_,_⟩:=hvn.count z_node kA
 obtain⟨i0,hi,hz0,hz1,hz2⟩:=info_parts infoStr
 obtain⟨R,hR⟩:∃R,keyS a ks=R:=⟨_,rfl⟩
 rw[hR]
 have HR:Hid ((keyS a (ks.drop 0)).map ([]++ ·)=R):=Lh (by rw[List.drop_zero,hR];cases R<;> rfl)
 have HOK:=Lh hok
 have HCN:=Lh hcnt
 clear hR hok hcnt
 go_enter Tryz.func100,Tryz.ntmps100
 go_wp2_with fail
 obtain⟨w1,hw1⟩:∃w1,((w.alloc (.cells #[.slice pa xp.length pc,.slice ka ks.length kc] 62)).alloc (.cells #[.int .i64 a.kind,.string (bs a.name),.string (bs a.text),.slice ba a.attrs.length ca,.slice bn a.kids.length cn] 66))=w1:=⟨_,rfl⟩
 have hE1:Ext w w1:=by rw[←hw1];exact((Ext.refl w).alloc _).alloc _
 have l0:w.heap.size< w1.heap.size:=by rw[←hw1];simp;omega
 have l1:w.heap.size+1< w1.heap.size:=by rw[←hw1];simp
 have k1:w1.cell? ⟨w.heap.size,1,none⟩=some (.slice ka ks.length kc):=by rw[←hw1];simp[go_sem]
 have n0:w1.cell? ⟨w.heap.size+1,0,none⟩=some (.int .i64 a.kind):=by rw[←hw1];simp[go_sem]
 have n1:w1.cell? ⟨w.heap.size+1,1,none⟩=some (.string (bs a.name)):=by rw[←hw1];simp[go_sem]
 have n2:w1.cell? ⟨w.heap.size+1,2,none⟩=some (.string (bs a.text)):=by rw[←hw1];simp[go_sem]
 have n3:w1.cell? ⟨w.heap.size+1,3,none⟩=some (.slice ba a.attrs.length ca):=by rw[←hw1];simp[go_sem]
 have n4:w1.cell? ⟨w.heap.size+1,4,none⟩=some (.slice bn a.kids.length cn):=by rw[←hw1];simp[go_sem]
 rw[hw1]
 clear hw1
 go_loopw [6,7,8,9] (fun o t _ _ wr=>∃(i:Nat) (L:List Bytes) (dv:Value),t= .int .i64 i∧dv=o∧i≤ks.length∧L.length≤i∧Own wr (fun _=>False) w1.heap.size 9 1 dv L.length (L.flatMap fun x=> [strD x])∧Ext w1 wr∧Hid ((keyS a (ks.drop i)).map (L++ ·)=R)) (fun _ t _ _ _=>downV ks.length t)
 case atStart=>exact⟨0,[],_,rfl,rfl,Nat.zero_le _,Nat.le_refl _,Own.nil _ _ _ _ _,Ext.refl _,HR⟩
 case round=>
  obtain⟨i,L,dv,rfl,rfl,hi2,hL,hown,hX,HI⟩:=hrel
  have hi0:=nZ0 i
  have hwz:=hX.size
  have k1r:=hX.keep l0 k1
  have n0r:=hX.keep l1 n0
  have n1r:=hX.keep l1 n1
  have n2r:=hX.keep l1 n2
  have n3r:=hX.keep l1 n3
  have n4r:=hX.keep l1 n4
  have m0:w.heap.size< wr.heap.size:=by omega
  have m1:w.heap.size+1< wr.heap.size:=by omega
  by_cases hlt:i< ks.length
  ·
   have hlI:(i:Int)< (ks.length:Int):=by omega
   obtain⟨g,o,rfl,lg,_,hc⟩:=str_at (hvk.ext (hE1.trans hX)) i hlt
   have hpo:=HOK.out _ (List.getElem_mem hlt)
   have HS:=keyS_step a L ks[i] (ks.drop (i+1))
   rw[←drop_one ks i hlt,HI.out]at HS
   obtain⟨k,hk⟩:∃k,ks[i]=k:=⟨_,rfl⟩
   rw[hk]at hc hpo HS
   have HC:=Lh fun W (hE:Ext wr W)=>value_any a k p _ _ W HCN.out hpo.1 hpo.2 (hva.ext ((hE1.trans hX).trans hE)) (hvn.ext ((hE1.trans hX).trans hE))
   have hvl:=valS_len a k
   obtain⟨r,hr⟩:∃r,valS a k=r:=⟨_,rfl⟩
   rw[hr]at HC HS hvl
   unfold OutV at HC
   have HSS:=Lh HS
   have HVL:=Lh hvl
   have hXX:=Lh hX
   obtain⟨wz,hwzz⟩:∃wz,wz=wr:=⟨_,rfl⟩
   subst hwzz
   clear hk hpo hr HS hvl HI
   obtain⟨s,hs⟩:∃s,bs (r.getD [])=s:=⟨_,rfl⟩
   obtain⟨b,hb⟩:∃b,r.isSome=b:=⟨_,rfl⟩
   rw[hs,hb]at HC
   have HSB:=Lh (And.intro hs hb)
   clear hs hb
   go_wp2_with fail
   refine rg_begin (S:=Sx wz) kB (Sx.begin _) ?_
   have hS:Sx wz (World.drew wz):=(Sx.begin _)
   refine gT 0 18 (.agg #[.int .i64 a.kind,.string (bs a.name),.string (bs a.text),.slice ba a.attrs.length ca,.slice bn a.kids.length cn]) hS ?_ (hv:=fun w' hs=>by(have h0:=hs.cell m1 n0r;have h1:=hs.cell m1 n1r;have h2:=hs.cell m1 n2r;have h3:=hs.cell m1 n3r;have h4:=hs.cell m1 n4r;go_simp))
   simp only[Act.put,sA,sZ,sS]
   refine gT 1 19 (.pointer (some ⟨w.heap.size,1,none⟩)) hS ?_
   simp only[Act.put,sA,sZ,sS]
   refine gT 2 20 (.slice (some ⟨g,o,none⟩) ks.length kc) hS ?_ (hv:=fun w' hs=>by(have h0:=hs.cell m0 k1r;go_simp))
   simp only[Act.put,sA,sZ,sS]
   refine gT 3 21 (.int .i64 i) hS ?_
   simp only[Act.put,sA,sZ,sS]
   refine gT 4 22 (.pointer (some ⟨g,o+i,none⟩)) hS ?_
   simp only[Act.put,sA,sZ,sS]
   refine gT 5 23 (.string (bs k)) hS ?_ (hv:=fun w' hs=>by(have h0:=hs.cell lg hc;go_simp))
   simp only[Act.put,sA,sZ,sS]
   refine rg_call 6 (some 24) 137 #[.agg #[.int .i64 a.kind,.string (bs a.name),.string (bs a.text),.slice ba a.attrs.length ca,.slice bn a.kids.length cn],.string (bs k)] rfl rfl kB (by rfl) (fun w'=>by first | rfl | go_simp) (R:=fun v w'=>v= .tuple #[.string s,.bool b]∧Ext (World.drew wz) w') ?_ ?_
   ·
    refine(HC.out (World.drew wz) hS).mono ?_
    rintro e w' ⟨rfl,h⟩
    exact⟨_,rfl,rfl,h⟩
   rintro _ wr1 ⟨rfl,hBr1⟩
   have hS1:=hS.ext hBr1
   refine⟨hS1,?_⟩
   simp only[Act.put,sA,sZ,sS]
   refine gT 7 17 (.tuple #[.string s,.bool b]) hS1 ?_
   simp only[Act.put,sA,sZ,sS]
   refine gT 8 25 (.string s) hS1 ?_
   simp only[Act.put,sA,sZ,sS]
   refine gT 9 26 (.bool b) hS1 ?_
   simp only[Act.put,sA,sZ,sS]
   refine gT 10 8 (.string s) hS1 ?_
   simp only[Act.put,sA,sZ,sS]
   refine gT 11 9 (.bool b) hS1 ?_
   simp only[Act.put,sA,sZ,sS]
   refine rg_done kB ?_
   have hX1:=hXX.out.trans hS1
   have hown1:=hown.ext hS1
   clear hown hX hXX hwz
   cases b with
   | false=>
    have hrn:r=none:=by have:=HSB.out.2;cases r;rfl;cases this
    subst hrn
    have HN:Hid (none=R):=Lh HSS.out.symm
    clear HSS HSB HVL hown1
    go_wp2_with fail
    go_ret2
    exact⟨⟨_,by rw[←HN.out];rfl,by rw[←HN.out];exact .nil 1⟩,hE1.trans hX1⟩
   | true=>
    obtain⟨v,hv⟩:∃v,r=some v:=by have:=HSB.out.2;cases r;cases this;exact⟨_,rfl⟩
    subst hv
    have hse:s=bs v:=HSB.out.1.symm
    subst hse
    have HN:Hid ((keyS a (ks.drop (i+1))).map ((L++ [v])++ ·)=R):=Lh HSS.out.symm
    have hvb:v.length≤12582912:=HVL.out v HCN.out rfl
    have hsz1:=hX1.size
    clear HSS HSB HVL
    obtain⟨us,hrow,hreps⟩:=hown1.rows
    go_wp2_with (at_builtin;refine wpList_append_own_at _ rfl (.tmp 29) (.tmp 31) _ rfl w1.heap.size 9 i0 (.string ⟨#[]⟩) 1 16 Tryz.underlying27 hi hz0 hz1 hz2 rfl kD dv L.length us rfl (hrow.alloc _) ⟨wr1.heap.size,0,none⟩ 1 1 [.string (bs v)] rfl rfl new_one kE kC kA kM ?_;intro v2 w3 hown2 hgrow2 _ hat2)
    have hX2:Ext w1 w3:=hX1.grown_own hrow hgrow2
    have hO2:Own w3 (fun _=>False) w1.heap.size 9 1 v2 (L++ [v]).length ((L++ [v]).flatMap fun x=> [strD x]):=by
     rw[List.length_append,List.flatMap_append]
     exact Own.push ((hreps.ext ((Ext.refl wr1).alloc _)).ok fun b hb=>⟨hb.1,hb.2.1,by simp;omega⟩) (Reps.cons (Rep.string _ _ _ kU) (Reps.nil _ _)) hown2 hgrow2 hat2
    clear hown2 hgrow2 hrow hreps hown1 hX1 hat2
    go_wp2_with fail
    go_roundw
    case rel=>exact⟨i+1,L++ [v],v2,by go_num,rfl,by omega,by rw[List.length_append];simp;omega,hO2,hX2,HN⟩
    case measure=>exact mZ
  ·
   have hlI:¬(i:Int)< (ks.length:Int):=by omega
   have HN:Hid (some L=R):=Lh (by have:=HI.out;rw[List.drop_of_length_le kA,keyS]at this;rw[←this];simp)
   clear HI
   go_wp2_with fail
   go_ret2
   refine⟨⟨dv,by rw[←HN.out];rfl,?_⟩,hE1.trans hX⟩
   rw[←HN.out]
   exact hown.rep.ok (fun b hb=>by rcases hb with h | h;exact h.elim;have:=hE1.size;omega)
section
variable {P:Program} {ops:Array Oper} {Q:Exit→Act→World→Prop} {S:World→Prop} {fuel:Nat} {listed:Array Bool} {a:Act} {w:World} {K:Act→World→Prop}
theorem rg_one (i:Nat) (hr:Region.ready .any ops listed= [i]) (h1:wpOp P ops Q i (fun a w=>S w∧wpAnyH P .any ops Q S fuel (listed.setIfInBounds i true) a w) a w):wpAnyH P .any ops Q S (fuel+1) listed a w:=by
 refine wpAnyH_all hr kI fun j hj=> ?_
 obtain rfl:j=i:=by simpa using hj
 exact h1
theorem rg_two (i j:Nat) (hr:Region.ready .any ops listed= [i,j]) (h1:wpOp P ops Q i (fun a w=>S w∧wpAnyH P .any ops Q S fuel (listed.setIfInBounds i true) a w) a w)
  (h2:wpOp P ops Q j (fun a w=>S w∧wpAnyH P .any ops Q S fuel (listed.setIfInBounds j true) a w) a w):wpAnyH P .any ops Q S (fuel+1) listed a w:=by
 refine wpAnyH_all hr kI fun k hk=> ?_
 have hk':k=i∨k=j:=by simpa using hk
 rcases hk' with rfl | rfl
 ·
  exact h1
 ·
  exact h2
theorem tk_new (i:Nat) (d:Option Tmp) (o:Obj) (f:Nat→Value) {oi:Oper} (hi:ops[i]? =some oi) (hd:oi.dst=d) (hw:Region.wanted oi (yielded ops a.tmps)=true)
  (hrun:(execOp a.eval oi).run P w= .ok (.value (f w.heap.size)) (w.alloc o)) (h:∀g W,g=w.heap.size→Ext w W→W.heap.size=w.heap.size+1→W.heap[g]? =some o→K (a.put d (f g)) W):wpOp P ops Q i K a w:=by
 unfold wpOp
 simp only[hi,hw,if_true]
 refine Or.inl ?_
 unfold Oper.wp
 rw[hrun,Oper.upon_value,hd]
 exact h _ _ rfl ((Ext.refl w).alloc _) kI Array.getElem?_push_size
theorem tk_app (i:Nat) (d:Option Tmp) {oi:Oper} (hi':ops[i]? =some oi) (hd:oi.dst=d) (hw:Region.wanted oi (yielded ops a.tmps)=true) (s x:Operand) (t:TypeId)
  (ho:oi.op= .call {callee:= .builtin .append,args:= #[s,x],argTypes:= #[t,t]})
  (base:Nat) (e:TypeId) (i0:TypeInfo) (z:Value) (size bytes:Nat) (ht:P.underlying t=some (.slice e)) (hi:P.info? e=some i0) (hz:i0.zero=some z)
  (hsize:i0.size=size) (hby:i0.bytes=bytes) (hzs:z.cells.size=size) (hsz:0< size)
  (v:Value) (n:Nat) (xs:List Value) (hs:a.eval s=v) (hown:w.ownsRow base e size v n xs)
  (ad:Addr) (m c:Nat) (news:List Value) (hx:a.eval x= .slice (some ad) m c) (hl:news.length=m*size) (hnews:∀j u,news[j]? =some u→w.cell? (ad.add j)=some u) (h1:∀u∈news,u.oneCell'=true)
  (h63:n+m≤maxLen) (hbytes:(n+m)*bytes≤140737488355328) (hbase:base≤w.heap.size)
  (h:∀v' w',w'.ownsRow base e size v' (n+m) (xs++news)→w.grownBy w' v.ownBlock→(v'.ownBlock=v.ownBlock∨v'.ownBlock=some w.heap.size)→K (a.put d v') w'):wpOp P ops Q i K a w:=by
 unfold wpOp
 simp only[hi',hw,if_true]
 refine Or.inl ?_
 obtain⟨v',w',hr,h2,h3,h4,h5⟩:=run_append_own_at (P:=P) w base t oi.type e i0 z size bytes ht hi hz hsize hby hzs hsz v n xs hown ad m c news hl hnews h1 h63 hbytes hbase
 unfold Oper.wp execOp
 simp only[ho,resolve,invoke,builtin,Sem.run_bind,Sem.run_pure,Result.andThen_ok,List.map_toArray,List.map_cons,List.map_nil,hs,hx,hr]
 rw[Oper.upon_value,hd]
 exact h v' w' h2 h3 h5
end
theorem rows_ext {w w':World} {base z n:Nat} {e:TypeId} {v:Value} {us:List Value} (h:w.ownsRow base e z v n us) (hB:Ext w w'):w'.ownsRow base e z v n us:=
 h.kept (row:=none) ⟨hB.os,hB.tape,hB.output,hB.size,fun i hi _=>Below.block hB i hi⟩ (by cases v.ownBlock<;> simp)
theorem sx_grown {a w w':World} {z n:Nat} {e:TypeId} {v:Value} {us:List Value} (h:Sx a w) (hown:w.ownsRow a.heap.size e z v n us) (hg:w.grownBy w' v.ownBlock):Sx a w':=
 Below.grown h hg (Below.size h) fun k hk=>(hown.lt k hk).1
theorem Rep.lt {w:World} {p:Nat→Prop} {v:Value} {d:DV} (h:Rep w p v d):Rep w (fun b=>p b∧b< w.heap.size) v d:=by
 induction h with
 | leaf x hx=>exact .leaf x hx
 | nil z=>exact .nil z
 | emp ad z=>exact .emp ad z
 | row b off len cap z us es hok hl hu hcap hm hc hr ih=>
  refine .row b off len cap z us es (fun hpos=>⟨hok hpos,?_⟩) hl hu hcap hm hc ih
  exact World.block_lt_of_cell? w _ (hc 0 us[0] (List.getElem?_eq_getElem hpos))
theorem own_empty {w:World} {base g:Nat} {e:TypeId} (hb:base≤g) (h:w.heap[g]? =some (.cells #[] e (0,0))):w.ownsRow base e 1 (.slice (some ⟨g,0,none⟩) 0 0) 0 []:=
 ⟨by simp,.inr ⟨g,0,#[],rfl,hb,h,Nat.le_refl _,Nat.zero_le _,by simp,by simp⟩⟩
theorem strs_cells {w:World} {p:Nat→Prop} {b off len cap:Nat} {l:List Bytes} (h:Rep w p (.slice (some ⟨b,off,none⟩) len cap) (strsD l)):∀(j:Nat) (u:Value),(l.map fun x=>Value.string (bs x))[j]? =some u→w.cell? ((⟨b,off,none⟩:Addr).add j)=some u:=by
 intro j u hj
 have hlt:j< l.length:=by have:=(List.getElem?_eq_some_iff.1 hj).1;simpa using this
 obtain⟨b',o',e,_,_,hc⟩:=str_at h j hlt
 cases e
 have e0:(⟨b,off,none⟩:Addr).add j=⟨b,off+j,none⟩:=by unfold Addr.add;split<;> simp_all
 rw[e0,hc,←hj];simp[hlt]
theorem strs_reps (w:World) (p:Nat→Prop) (l:List Bytes) (h:∀(i:Nat) (hi:i< l.length),l[i].length≤9223372036854775807):Reps w p (l.map fun x=>Value.string (bs x)) (l.flatMap fun x=> [strD x]):=by
 induction l with
 | nil=>exact Reps.nil _ _
 | cons x r ih=>exact Reps.cons (Rep.string _ _ _ (by rw[bs_size];exact h 0 kI)) (ih fun i hi=>by have:=h (i+1) (by simpa using hi);simpa using this)
def noRule:Rule:=⟨[],[]⟩
def stepsS (l:List Rule) (path:List Bytes):List Node→List Step
 | []=> []
 | k::r=>if findS (path++ [k.name]) l 0< 0 then stepsS l path r else⟨k.name,(keyS k (l.getD (findS (path++ [k.name]) l 0).toNat noRule).keys).getD []⟩::stepsS l path r
theorem stepsS_len (l:List Rule) (path:List Bytes):∀ks,(stepsS l path ks).length≤ks.length
 | []=>Nat.le_refl _
 | k::r=>by
  have:=stepsS_len l path r
  unfold stepsS
  split
  ·
   simp only[List.length_cons];omega
  ·
   simp only[List.length_cons];omega
def RulesOk (l:List Rule):Prop:=∀r∈l,r.keys.length≤1048576∧∀k∈r.keys,pathOk k
theorem infoStep:(Tryz.prog.info? 101).map (fun i=>(i.zero,i.size,i.bytes))=some (some (.agg #[.string ⟨#[]⟩,.slice none 0 0]),2,40):=by kernel_rfl
end Go.Proofs.YtngmgjodcnknoaaGreatDoor
