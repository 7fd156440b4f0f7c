/-
 Laws drawn from elder texts. Helper lemmas;no statement of the seat is proved here.
-/
import Derived.Test.YtngmgjodcnknoaaGreatDoorU11
namespace Go.Proofs.YtngmgjodcnknoaaGreatDoor
open Go.RowKit
set_option maxHeartbeats 32000000
set_option maxRecDepth 100000
set_option linter.unusedVariables false
set_option linter.unusedSimpArgs false
theorem fair_any:∀(N:Nat) (a:Node) (p:Nat→Prop) (va vk:Value) (w:World),nsz a≤N→cntN a≤1048576→Rep w p va (attrsD a.attrs)→Rep w p vk (nodesD a.kids)→
  Calls Tryz.prog 76 #[.agg #[.int .i64 a.kind,.string (bs a.name),.string (bs a.text),va,vk]] w fun e w'=>SomeB (fun b=>b=true→fairN a=true) e∧Ext w w':=by
 intro N
 induction N with
 | zero=>intro a p va vk w hN;cases a;rw[nsz]at hN;omega
 | succ N ih=>
  intro a p va vk w hN hcnt hva hvk
  have hkid:=fun i h=>kid_lt a i h
  obtain⟨k,nm,tx,la,ks⟩:=a
  simp only[Node.kind,Node.name,Node.text,Node.attrs,Node.kids]at*
  have hsz:nm.length≤1048576∧tx.length≤1048576∧la.length≤1048576∧ks.length≤1048576∧cntA la≤1048576∧cntL ks≤1048576:=by
   rw[cntN]at hcnt
   have:=cntL_len ks
   have:=cntA_len la
   omega
  obtain⟨hnm,htx,hla,hks,hca,hcl⟩:=hsz
  obtain⟨ba,ca,rfl,ha1,ha2⟩:=hva.count z_attr kA
  obtain⟨bk,ck,rfl,hk1,hk2⟩:=hvk.count z_node kA
  have HM:Hid (∀(i:Nat) (h:i< ks.length),nsz ks[i]≤N):=Lh (fun i h=>by have:=hkid i h;omega)
  have HCM:Hid (∀(i:Nat) (h:i< ks.length),cntN ks[i]≤1048576):=Lh (fun i h=>by have:=cntL_mem ks i h;omega)
  have HAM:Hid (∀(i:Nat) (h:i< la.length),la[i].n.length≤1048576∧la[i].v.length≤1048576):=Lh (fun i h=>by have:=cntA_mem la i h;omega)
  have IH:=Lh ih
  obtain⟨w1,hw1⟩:∃w1,w.alloc (.cells #[.int .i64 k,.string (bs nm),.string (bs tx),.slice ba la.length ca,.slice bk ks.length ck] 66)=w1:=⟨_,rfl⟩
  have hE1:Ext w w1:=by rw[←hw1];exact(Ext.refl w).alloc _
  have l0:w.heap.size< w1.heap.size:=by rw[←hw1];simp
  have c0:w1.cell? ⟨w.heap.size,0,none⟩=some (.int .i64 k):=by rw[←hw1];simp[go_sem]
  have c1:w1.cell? ⟨w.heap.size,1,none⟩=some (.string (bs nm)):=by rw[←hw1];simp[go_sem]
  have c2:w1.cell? ⟨w.heap.size,2,none⟩=some (.string (bs tx)):=by rw[←hw1];simp[go_sem]
  have c3:w1.cell? ⟨w.heap.size,3,none⟩=some (.slice ba la.length ca):=by rw[←hw1];simp[go_sem]
  have c4:w1.cell? ⟨w.heap.size,4,none⟩=some (.slice bk ks.length ck):=by rw[←hw1];simp[go_sem]
  obtain⟨bv,wc,hcv,hEc,hbv⟩:=conv_bytes w1 tx kA
  rw[←hw1]at hcv
  have HBD:=Lh fun W (hE:Ext wc W)=>bad_any _ tx htx bv W (hbv.ext hE)
  have HW1:=Lh hw1
  clear hkid hN ih hcnt hw1 hbv
  go_enter Tryz.func76,Tryz.ntmps76
  go_wp2_with fail
  refine(HBD.out _ (Ext.refl _)).mono ?_
  rintro e w2 ⟨⟨n,rfl,hn1,hn2⟩,hB2⟩
  have hE2:Ext w1 w2:=hEc.trans hB2
  have d0:=hE2.keep l0 c0
  have d1:=hE2.keep l0 c1
  have d2:=hE2.keep l0 c2
  have d3:=hE2.keep l0 c3
  have d4:=hE2.keep l0 c4
  have l2:w.heap.size< w2.heap.size:=Nat.lt_of_lt_of_le l0 hE2.size
  have hX2:=hE1.trans hE2
  clear hcv HBD HW1 hEc hB2 c0 c1 c2 c3 c4 hE2
  by_cases hn:0≤n
  ·
   go_wp2_with fail
   go_ret
   exact⟨⟨_,rfl,fun h=>by cases h⟩,hX2⟩
  ·
   by_cases h1:k=1
   ·
    subst h1
    go_wp2_with fail
    refine(name2_any nm hnm _).mono ?_
    rintro e w3 ⟨⟨b,rfl,hnb⟩,hB3⟩
    have HNB:=Lh hnb
    clear hnb
    have hX3:=hX2.trans hB3
    have f0:=hB3.keep l2 d0
    have f1:=hB3.keep l2 d1
    have f2:=hB3.keep l2 d2
    have f3:=hB3.keep l2 d3
    have f4:=hB3.keep l2 d4
    have l3:w.heap.size< w3.heap.size:=Nat.lt_of_lt_of_le l2 hB3.size
    clear d0 d1 d2 d3 d4
    have HC:Hid (∀W,Ext w3 W→W.cell? ⟨w.heap.size,3,none⟩=some (.slice ba la.length ca)∧W.cell? ⟨w.heap.size,4,none⟩=some (.slice bk ks.length ck)):=Lh fun W hE=>⟨hE.keep l3 f3,hE.keep l3 f4⟩
    obtain⟨T,hT⟩:∃T,((bs tx).toList==(⟨#[]⟩:ByteArray).toList)=T:=⟨_,rfl⟩
    have hT2:((bs tx).toList== [])=T:=by rw[←hT];cases tx with
     | nil=>rw[bs_nil2 [] rfl,bs_nil [] rfl]
     | cons x y=>rw[bs_nnil2 _ kI,bs_nnil _ kI]
    have HT0:Hid (T=true→tx= []):=Lh fun h=>by rw[h]at hT2;rw[bs_toList,beq_iff_eq]at hT2;exact hT2
    cases b
    all_goals
     go_wp2_with fail
     clear f0 f1 f2 f3 f4 hT hT2
     go_loopw [3,4,5] (fun x t _ wr=>∃(ok:Bool) (i:Nat),x= .bool ok∧t= .int .i64 i∧i≤la.length∧Hid (ok=true→AttrsP tx nm la i)∧Ext w3 wr) (fun _ t _ _=>downV la.length t)
     case atStart=>exact⟨_,0,rfl,rfl,Nat.zero_le _,by first | exact Lh (fun h=>attrs_zero (HT0.out h) (HNB.out kK)) | exact Lh (fun h=>by cases h),Ext.refl _⟩
     case round=>
      obtain⟨ok,i,rfl,rfl,hi,HO,hX⟩:=hrel
      have hi0:=nZ0 i
      obtain⟨cc3,cc4⟩:=HC.out _ hX
      have lr:w.heap.size< wr.heap.size:=Nat.lt_of_lt_of_le l3 hX.size
      by_cases hlt:i< la.length
      ·
       have hlI:(i:Int)< (la.length:Int):=by omega
       obtain⟨g,o,rfl,lg,_,x0,x1⟩:=attr_at (hva.ext (hX3.trans hX)) i hlt
       have hxl:=HAM.out i hlt
       obtain⟨x,hx⟩:∃x,la[i]=x:=⟨_,rfl⟩
       rw[hx]at x0 x1 hxl
       have HLX:=Lh (show∀h:i< la.length,la[i]=x from fun _=>hx)
       clear hx
       cases ok with
       | false=>
        go_wp2_with fail
        obtain⟨wz,hwz⟩:∃wz,wz=wr:=⟨_,rfl⟩
        have lz:w.heap.size< wz.heap.size:=by rw[hwz];exact lr
        have z3:wz.cell? ⟨w.heap.size,3,none⟩=some (.slice (some ⟨g,o,none⟩) la.length ca):=by rw[hwz];exact cc3
        have hXz:Ext w wz:=by rw[hwz];exact hX3.trans hX
        have hY:Ext w3 wz:=by rw[hwz];exact hX
        rw[←hwz]
        clear hwz
        go_loopw [3,5] (fun x t wq=>∃(ok:Bool) (j:Nat),x= .bool ok∧t= .int .i64 j∧j≤i∧Hid (ok=true→AttrsQ tx nm la i j)∧Dr wz wq) (fun _ t _=>downV i t)
        case atStart=>exact⟨_,0,rfl,rfl,Nat.zero_le _,by first | exact Lh (fun _=>attrs_in HTX.out HLX.out (HNX.out kK)) | exact Lh (fun h=>by cases h),Dr.refl _⟩
        case round=>
         clear HO
         obtain⟨ok,j,rfl,rfl,hj,HO,hD⟩:=hrel
         have hj0:=nZ0 j
         have z3q:=hD.ext.keep lz z3
         have lq:w.heap.size< wr.heap.size:=Nat.lt_of_lt_of_le lz hD.ext.size
         by_cases hjl:j< i
         ·
          have hjI:(j:Int)< (i:Int):=by omega
          have hjJ:(j:Int)< (la.length:Int):=by omega
          obtain⟨g',o',e',lg',_,cj,_⟩:=attr_at (hva.ext (hXz.trans hD.ext)) j kA
          obtain⟨g2',o2',e2',lg2',_,ci,_⟩:=attr_at (hva.ext (hXz.trans hD.ext)) i hlt
          cases e'
          cases e2'
          obtain⟨y,hy⟩:∃y,la[j].n=y:=⟨_,rfl⟩
          rw[hy]at cj
          have HYL:=Lh (show∃h:j< la.length,la[j].n=y from⟨by omega,hy⟩)
          clear hy
          cases ok with
          | false=>
           go_wp2_with fail
           go_quiet (fail)
           go_wp2_with fail
           go_roundw
           case rel=>exact⟨_,j+1,rfl,by go_num,by omega,Lh (fun h=>by cases h),hD.drewN _⟩
           case measure=>exact mZ
          | true=>
           go_wp2_with fail
           go_quiet (fail)
           go_wp2_with fail
           go_roundw
           case rel=>
            refine⟨_,j+1,rfl,by go_num,by omega,Lh (fun h=> ?_),hD.drewN _⟩
            obtain⟨hjl',hyl⟩:=HYL.out
            exact attrs_step (HO.out kK) hjl' fun hl=>by
             rw[hyl]
             intro e
             rw[e]at h
             simp at h
           case measure=>exact mZ
         ·
          have hjI:¬(j:Int)< (i:Int):=by omega
          go_wp2_with fail
          go_roundw
          case rel=>exact⟨_,i+1,rfl,by go_num,by omega,Lh fun h=>attrs_next (HO.out h) kA,hY.trans hD.ext⟩
          case measure=>exact mZ
       | true=>
        have HTX:=Lh (HO.out rfl)
        go_wp2_with fail
        refine(name2_any x.n hxl.1 _).mono ?_
        rintro e w4 ⟨⟨b4,rfl,hnx⟩,hB4⟩
        have HNX:=Lh hnx
        clear hnx
        have l4:w.heap.size< w4.heap.size:=Nat.lt_of_lt_of_le lr hB4.size
        have cc3':=hB4.keep lr cc3
        have x1':=hB4.keep lg x1
        have lg':g< w4.heap.size:=Nat.lt_of_lt_of_le lg hB4.size
        have hX4:=(hX3.trans hX).trans hB4
        clear x0 x1 cc3 cc4 lg
        cases b4 with
        | false=>
         go_wp2_with fail
         obtain⟨wz,hwz⟩:∃wz,wz=w4:=⟨_,rfl⟩
         have lz:w.heap.size< wz.heap.size:=by rw[hwz];exact l4
         have z3:wz.cell? ⟨w.heap.size,3,none⟩=some (.slice (some ⟨g,o,none⟩) la.length ca):=by rw[hwz];exact cc3'
         have hXz:Ext w wz:=by rw[hwz];exact hX4
         have hY:Ext w3 wz:=by rw[hwz];exact hX.trans hB4
         rw[←hwz]
         clear hwz
         go_loopw [3,5] (fun x t wq=>∃(ok:Bool) (j:Nat),x= .bool ok∧t= .int .i64 j∧j≤i∧Hid (ok=true→AttrsQ tx nm la i j)∧Dr wz wq) (fun _ t _=>downV i t)
         case atStart=>exact⟨_,0,rfl,rfl,Nat.zero_le _,by first | exact Lh (fun _=>attrs_in HTX.out HLX.out (HNX.out kK)) | exact Lh (fun h=>by cases h),Dr.refl _⟩
         case round=>
          clear HO
          obtain⟨ok,j,rfl,rfl,hj,HO,hD⟩:=hrel
          have hj0:=nZ0 j
          have z3q:=hD.ext.keep lz z3
          have lq:w.heap.size< wr.heap.size:=Nat.lt_of_lt_of_le lz hD.ext.size
          by_cases hjl:j< i
          ·
           have hjI:(j:Int)< (i:Int):=by omega
           have hjJ:(j:Int)< (la.length:Int):=by omega
           obtain⟨g',o',e',lg',_,cj,_⟩:=attr_at (hva.ext (hXz.trans hD.ext)) j kA
           obtain⟨g2',o2',e2',lg2',_,ci,_⟩:=attr_at (hva.ext (hXz.trans hD.ext)) i hlt
           cases e'
           cases e2'
           obtain⟨y,hy⟩:∃y,la[j].n=y:=⟨_,rfl⟩
           rw[hy]at cj
           have HYL:=Lh (show∃h:j< la.length,la[j].n=y from⟨by omega,hy⟩)
           clear hy
           cases ok with
           | false=>
            go_wp2_with fail
            go_quiet (fail)
            go_wp2_with fail
            go_roundw
            case rel=>exact⟨_,j+1,rfl,by go_num,by omega,Lh (fun h=>by cases h),hD.drewN _⟩
            case measure=>exact mZ
           | true=>
            go_wp2_with fail
            go_quiet (fail)
            go_wp2_with fail
            go_roundw
            case rel=>
             refine⟨_,j+1,rfl,by go_num,by omega,Lh (fun h=> ?_),hD.drewN _⟩
             obtain⟨hjl',hyl⟩:=HYL.out
             exact attrs_step (HO.out kK) hjl' fun hl=>by
              rw[hyl]
              intro e
              rw[e]at h
              simp at h
            case measure=>exact mZ
          ·
           have hjI:¬(j:Int)< (i:Int):=by omega
           go_wp2_with fail
           go_roundw
           case rel=>exact⟨_,i+1,rfl,by go_num,by omega,Lh fun h=>attrs_next (HO.out h) kA,hY.trans hD.ext⟩
           case measure=>exact mZ
        | true=>
         obtain⟨bv5,w5,hcv5,hE5,hbv5⟩:=conv_bytes w4 x.v kA
         have HBD5:=Lh fun W (hE:Ext w5 W)=>bad_any _ x.v hxl.2 bv5 W (hbv5.ext hE)
         clear hbv5
         go_wp2_with fail
         refine(HBD5.out _ (Ext.refl _)).mono ?_
         rintro e w6 ⟨⟨n6,rfl,hn61,hn62⟩,hB6⟩
         have hE6:=hE5.trans hB6
         have l6:w.heap.size< w6.heap.size:=Nat.lt_of_lt_of_le l4 hE6.size
         have cc36:=hE6.keep l4 cc3'
         have hX6:=hX4.trans hE6
         have hY6:=hX.trans (hB4.trans hE6)
         clear hcv5 HBD5 hE5 hB6 x1' cc3'
         by_cases hn6:n6< 0
         ·
          go_wp2_with fail
          obtain⟨wz,hwz⟩:∃wz,wz=w6:=⟨_,rfl⟩
          have lz:w.heap.size< wz.heap.size:=by rw[hwz];exact l6
          have z3:wz.cell? ⟨w.heap.size,3,none⟩=some (.slice (some ⟨g,o,none⟩) la.length ca):=by rw[hwz];exact cc36
          have hXz:Ext w wz:=by rw[hwz];exact hX6
          have hY:Ext w3 wz:=by rw[hwz];exact hY6
          rw[←hwz]
          clear hwz
          go_loopw [3,5] (fun x t wq=>∃(ok:Bool) (j:Nat),x= .bool ok∧t= .int .i64 j∧j≤i∧Hid (ok=true→AttrsQ tx nm la i j)∧Dr wz wq) (fun _ t _=>downV i t)
          case atStart=>exact⟨_,0,rfl,rfl,Nat.zero_le _,by first | exact Lh (fun _=>attrs_in HTX.out HLX.out (HNX.out kK)) | exact Lh (fun h=>by cases h),Dr.refl _⟩
          case round=>
           clear HO
           obtain⟨ok,j,rfl,rfl,hj,HO,hD⟩:=hrel
           have hj0:=nZ0 j
           have z3q:=hD.ext.keep lz z3
           have lq:w.heap.size< wr.heap.size:=Nat.lt_of_lt_of_le lz hD.ext.size
           by_cases hjl:j< i
           ·
            have hjI:(j:Int)< (i:Int):=by omega
            have hjJ:(j:Int)< (la.length:Int):=by omega
            obtain⟨g',o',e',lg',_,cj,_⟩:=attr_at (hva.ext (hXz.trans hD.ext)) j kA
            obtain⟨g2',o2',e2',lg2',_,ci,_⟩:=attr_at (hva.ext (hXz.trans hD.ext)) i hlt
            cases e'
            cases e2'
            obtain⟨y,hy⟩:∃y,la[j].n=y:=⟨_,rfl⟩
            rw[hy]at cj
            have HYL:=Lh (show∃h:j< la.length,la[j].n=y from⟨by omega,hy⟩)
            clear hy
            cases ok with
            | false=>
             go_wp2_with fail
             go_quiet (fail)
             go_wp2_with fail
             go_roundw
             case rel=>exact⟨_,j+1,rfl,by go_num,by omega,Lh (fun h=>by cases h),hD.drewN _⟩
             case measure=>exact mZ
            | true=>
             go_wp2_with fail
             go_quiet (fail)
             go_wp2_with fail
             go_roundw
             case rel=>
              refine⟨_,j+1,rfl,by go_num,by omega,Lh (fun h=> ?_),hD.drewN _⟩
              obtain⟨hjl',hyl⟩:=HYL.out
              exact attrs_step (HO.out kK) hjl' fun hl=>by
               rw[hyl]
               intro e
               rw[e]at h
               simp at h
             case measure=>exact mZ
           ·
            have hjI:¬(j:Int)< (i:Int):=by omega
            go_wp2_with fail
            go_roundw
            case rel=>exact⟨_,i+1,rfl,by go_num,by omega,Lh fun h=>attrs_next (HO.out h) kA,hY.trans hD.ext⟩
            case measure=>exact mZ
         ·
          go_wp2_with fail
          obtain⟨wz,hwz⟩:∃wz,wz=w6:=⟨_,rfl⟩
          have lz:w.heap.size< wz.heap.size:=by rw[hwz];exact l6
          have z3:wz.cell? ⟨w.heap.size,3,none⟩=some (.slice (some ⟨g,o,none⟩) la.length ca):=by rw[hwz];exact cc36
          have hXz:Ext w wz:=by rw[hwz];exact hX6
          have hY:Ext w3 wz:=by rw[hwz];exact hY6
          rw[←hwz]
          clear hwz
          go_loopw [3,5] (fun x t wq=>∃(ok:Bool) (j:Nat),x= .bool ok∧t= .int .i64 j∧j≤i∧Hid (ok=true→AttrsQ tx nm la i j)∧Dr wz wq) (fun _ t _=>downV i t)
          case atStart=>exact⟨_,0,rfl,rfl,Nat.zero_le _,by first | exact Lh (fun _=>attrs_in HTX.out HLX.out (HNX.out kK)) | exact Lh (fun h=>by cases h),Dr.refl _⟩
          case round=>
           clear HO
           obtain⟨ok,j,rfl,rfl,hj,HO,hD⟩:=hrel
           have hj0:=nZ0 j
           have z3q:=hD.ext.keep lz z3
           have lq:w.heap.size< wr.heap.size:=Nat.lt_of_lt_of_le lz hD.ext.size
           by_cases hjl:j< i
           ·
            have hjI:(j:Int)< (i:Int):=by omega
            have hjJ:(j:Int)< (la.length:Int):=by omega
            obtain⟨g',o',e',lg',_,cj,_⟩:=attr_at (hva.ext (hXz.trans hD.ext)) j kA
            obtain⟨g2',o2',e2',lg2',_,ci,_⟩:=attr_at (hva.ext (hXz.trans hD.ext)) i hlt
            cases e'
            cases e2'
            obtain⟨y,hy⟩:∃y,la[j].n=y:=⟨_,rfl⟩
            rw[hy]at cj
            have HYL:=Lh (show∃h:j< la.length,la[j].n=y from⟨by omega,hy⟩)
            clear hy
            cases ok with
            | false=>
             go_wp2_with fail
             go_quiet (fail)
             go_wp2_with fail
             go_roundw
             case rel=>exact⟨_,j+1,rfl,by go_num,by omega,Lh (fun h=>by cases h),hD.drewN _⟩
             case measure=>exact mZ
            | true=>
             go_wp2_with fail
             go_quiet (fail)
             go_wp2_with fail
             go_roundw
             case rel=>
              refine⟨_,j+1,rfl,by go_num,by omega,Lh (fun h=> ?_),hD.drewN _⟩
              obtain⟨hjl',hyl⟩:=HYL.out
              exact attrs_step (HO.out kK) hjl' fun hl=>by
               rw[hyl]
               intro e
               rw[e]at h
               simp at h
             case measure=>exact mZ
           ·
            have hjI:¬(j:Int)< (i:Int):=by omega
            go_wp2_with fail
            go_roundw
            case rel=>exact⟨_,i+1,rfl,by go_num,by omega,Lh fun h=>attrs_next (HO.out h) kA,hY.trans hD.ext⟩
            case measure=>exact mZ
      ·
       have hlI:¬(i:Int)< (la.length:Int):=by omega
       go_wp2_with fail
       go_loopw [3,6] (fun x t wr=>∃(ok:Bool) (i:Nat),x= .bool ok∧t= .int .i64 i∧i≤ks.length∧Hid (ok=true→AttrsP tx nm la la.length∧∀(j:Nat) (h:j< ks.length),j< i→fairN ks[j]=true)∧Ext w3 wr) (fun _ t _=>downV ks.length t)
       case atStart=>exact⟨_,0,rfl,rfl,Nat.zero_le _,Lh fun h=>⟨by have:=HO.out h;rwa [show i=la.length by omega]at this,fun j hj h0=>absurd h0 (Nat.not_lt_zero _)⟩,hX⟩
       case round=>
        clear hlI hlt hi hi0 cc3 cc4 lr hX HO
        obtain⟨ok,i,rfl,rfl,hi,HO,hX⟩:=hrel
        have hi0:=nZ0 i
        obtain⟨cc3,cc4⟩:=HC.out _ hX
        have lr:w.heap.size< wr.heap.size:=Nat.lt_of_lt_of_le l3 hX.size
        by_cases hlt:i< ks.length
        ·
         have hlI:(i:Int)< (ks.length:Int):=by omega
         cases ok with
         | false=>
          go_wp2_with fail
          go_roundw
          case rel=>exact⟨_,i+1,rfl,by go_num,by omega,Lh (fun h=>by cases h),hX⟩
          case measure=>exact mZ
         | true=>
          obtain⟨g,o,y1,y2,rfl,lg,_,x0,x1,x2,x3,x4,hr1,hr2⟩:=node_at (hvk.ext (hX3.trans hX)) i hlt
          have hm:=HM.out i hlt
          have hcm:=HCM.out i hlt
          obtain⟨x,hx⟩:∃x,ks[i]=x:=⟨_,rfl⟩
          rw[hx]at x0 x1 x2 hr1 hr2 hm hcm
          have HXI:=Lh (And.intro hx (HO.out rfl))
          have HF:=Lh fun W (hE:Ext wr W)=>IH.out x p y1 y2 W hm hcm (hr1.ext hE) (hr2.ext hE)
          clear hx hm hcm hr1 hr2
          go_wp2_with fail
          refine(HF.out _ (Ext.refl _)).mono ?_
          rintro e w4 ⟨⟨b4,rfl,hf4⟩,hB4⟩
          have HF4:Hid (b4=true→∀(j:Nat) (h:j< ks.length),j< i+1→fairN ks[j]=true):=Lh fun h j hj hlt2=>by
           rcases Nat.lt_or_ge j i with h1 | h1
           ·
            exact HXI.out.2.2 j hj h1
           ·
            obtain rfl:j=i:=by omega
            rw[HXI.out.1];exact hf4 h
          clear hf4
          have l4:w.heap.size< w4.heap.size:=Nat.lt_of_lt_of_le lr hB4.size
          have v4:=hB4.keep lr cc4
          have t0:=hB4.keep lg x0
          have lg4:g< w4.heap.size:=Nat.lt_of_lt_of_le lg hB4.size
          have hX4:=hX.trans hB4
          clear x0 x1 x2 x3 x4 cc3 cc4 lg
          cases b4 with
          | false=>
           go_wp2_with fail
           go_roundw
           case rel=>exact⟨_,i+1,rfl,by go_num,by omega,Lh (fun h=>by cases h),hX4⟩
           case measure=>exact mZ
          | true=>
           have HN4:Hid (AttrsP tx nm la la.length∧∀(j:Nat) (h:j< ks.length),j< i+1→fairN ks[j]=true):=Lh ⟨HXI.out.2.1,HF4.out rfl⟩
           by_cases hz:i=0
           ·
            subst hz
            go_wp2_with fail
            go_roundw
            case rel=>exact⟨_,1,rfl,by go_num,by omega,Lh (fun _=>HN4.out),hX4⟩
            case measure=>exact mZ
           ·
            have hzI:((i:Int)==0)=false:=by rw[beq_eq_false_iff_ne];omega
            by_cases h2:x.kind=2
            ·
             have q2:(x.kind !=2)=false:=by rw[h2];rfl
             obtain⟨m,hm⟩:∃m:Nat,i - 1=m:=⟨_,rfl⟩
             have hmI:(i:Int) - 1=(m:Int):=by omega
             have hml:m< ks.length:=by omega
             have hmJ:(m:Int)< (ks.length:Int):=by omega
             have hm0:=nZ0 m
             obtain⟨g',o',z1,z2,e',_,_,m0,_⟩:=node_at (hvk.ext (hX3.trans hX4)) m hml
             cases e'
             obtain⟨y,hy⟩:∃y,ks[m].kind=y:=⟨_,rfl⟩
             rw[hy]at m0
             have HZ:=Lh (And.intro hz (And.intro h2 hm))
             clear hz h2 hm hy
             go_wp2_with fail
             go_roundw
             case rel=>exact⟨_,i+1,rfl,by go_num,by omega,Lh (fun _=>HN4.out),hX4⟩
             case measure=>exact mZ
            ·
             have q2:(x.kind !=2)=true:=by rw[bne_iff_ne];exact h2
             clear hz h2
             go_wp2_with fail
             go_roundw
             case rel=>exact⟨_,i+1,rfl,by go_num,by omega,Lh (fun _=>HN4.out),hX4⟩
             case measure=>exact mZ
        ·
         have hlI:¬(i:Int)< (ks.length:Int):=by omega
         go_wp2_with fail
         go_ret
         exact⟨⟨_,rfl,fun h=>by obtain⟨h1,h2⟩:=HO.out h;rw[fairN,if_pos rfl,decide_eq_true h1.1,@decide_eq_true _ (Classical.propDecidable _) (attrs_all h1),fairL_of _ fun j hj=>h2 j hj kA];rfl⟩,hX3.trans hX⟩
   ·
    have q1:(k !=1)=true:=by rw[bne_iff_ne];exact h1
    have q1':(k==1)=false:=by rw[beq_eq_false_iff_ne];exact h1
    by_cases hl:0< la.length
    ·
     have hlI:(0:Int)< (la.length:Int):=by omega
     go_wp2_with fail
     go_ret
     exact⟨⟨_,rfl,fun h=>by cases h⟩,hX2⟩
    ·
     obtain rfl:la= []:=List.eq_nil_of_length_eq_zero kA
     simp only[List.length_nil]at*
     clear hl
     by_cases hkk:0< ks.length
     ·
      have hkI:(0:Int)< (ks.length:Int):=by omega
      go_wp2_with fail
      go_ret
      exact⟨⟨_,rfl,fun h=>by cases h⟩,hX2⟩
     ·
      obtain rfl:ks= []:=List.eq_nil_of_length_eq_zero kA
      simp only[List.length_nil]at*
      clear hkk
      have HFN:Hid (1≤k→k≤4→fairN (.mk k nm tx [] [])=true):=Lh (fun h1' h4'=>by rw[fairN,if_neg h1,decide_eq_true (⟨h1',h4'⟩:1≤k∧k≤4)];rfl)
      by_cases h2:k=2
      ·
       subst h2
       by_cases em:nm= []
       ·
        have m1:=bs_nil nm em
        have m2:=bs_nil2 nm em
        clear em
        by_cases et:tx= []
        ·
         have t1:=bs_nil tx et
         have t2:=bs_nil2 tx et
         clear et
         go_wp2_with fail
         go_ret
         exact⟨⟨_,rfl,fun _=>HFN.out kD kD⟩,hX2⟩
        ·
         have t1:=bs_nnil tx et
         have t2:=bs_nnil2 tx et
         clear et
         go_wp2_with fail
         go_ret
         exact⟨⟨_,rfl,fun _=>HFN.out kD kD⟩,hX2⟩
       ·
        have m1:=bs_nnil nm em
        have m2:=bs_nnil2 nm em
        clear em
        go_wp2_with fail
        go_ret
        exact⟨⟨_,rfl,fun _=>HFN.out kD kD⟩,hX2⟩
      ·
       have q2:(k==2)=false:=by rw[beq_eq_false_iff_ne];exact h2
       by_cases h3:k=3
       ·
        subst h3
        by_cases em:nm= []
        ·
         have m1:=bs_nil nm em
         have m2:=bs_nil2 nm em
         clear em
         go_wp2_with fail
         refine(has_any _ _ (by rw[bs_size];exact htx) kD _).mono ?_
         rintro _ wy ⟨⟨bu,rfl,_⟩,hwy⟩
         subst hwy
         cases bu with
         | true=>
          go_wp2_with fail
          go_ret
          exact⟨⟨_,rfl,fun _=>HFN.out kD kD⟩,hX2⟩
         | false=>
          go_wp2_with fail
          refine(has_any _ _ (by rw[bs_size];exact htx) kD _).mono ?_
          rintro _ wy ⟨⟨bv,rfl,_⟩,hwy⟩
          subst hwy
          cases bv with
          | true=>
           go_wp2_with fail
           go_ret
           exact⟨⟨_,rfl,fun _=>HFN.out kD kD⟩,hX2⟩
          | false=>
           by_cases et:tx= []
           ·
            have t1:=bs_nil tx et
            have t2:=bs_nil2 tx et
            clear et
            go_wp2_with fail
            go_ret
            exact⟨⟨_,rfl,fun _=>HFN.out kD kD⟩,hX2⟩
           ·
            have t1:=bs_nnil tx et
            have t2:=bs_nnil2 tx et
            have hs0:0< (bs tx).size:=by rw[bs_size];exact List.length_pos_iff.2 et
            have hs1:(bs tx).size≤1048576:=by rw[bs_size];exact htx
            obtain⟨m,hm⟩:∃m:Nat,(bs tx).size - 1=m:=⟨_,rfl⟩
            have hmI:((bs tx).size:Int) - 1=(m:Int):=by omega
            have hml:m< (bs tx).size:=by omega
            have hmJ:(m:Int)< ((bs tx).size:Int):=by omega
            have hm0:=nZ0 m
            clear et hm
            go_wp2_with fail
            go_ret
            exact⟨⟨_,rfl,fun _=>HFN.out kD kD⟩,hX2⟩
        ·
         have m1:=bs_nnil nm em
         have m2:=bs_nnil2 nm em
         clear em
         go_wp2_with fail
         go_ret
         exact⟨⟨_,rfl,fun _=>HFN.out kD kD⟩,hX2⟩
       ·
        have q3:(k==3)=false:=by rw[beq_eq_false_iff_ne];exact h3
        by_cases h4:k=4
        ·
         subst h4
         go_wp2_with fail
         refine(name_any nm hnm _).mono ?_
         rintro e w3 ⟨⟨b,rfl,_⟩,hB3⟩
         have hX3:=hX2.trans hB3
         have f0:=hB3.keep l2 d0
         have f1:=hB3.keep l2 d1
         have f2:=hB3.keep l2 d2
         have f3:=hB3.keep l2 d3
         have f4:=hB3.keep l2 d4
         have l3:w.heap.size< w3.heap.size:=Nat.lt_of_lt_of_le l2 hB3.size
         cases b with
         | false=>
          go_wp2_with fail
          go_ret
          exact⟨⟨_,rfl,fun _=>HFN.out kD kD⟩,hX3⟩
         | true=>
          go_wp2_with fail
          refine(lower_any nm hnm _).mono ?_
          rintro e w4 ⟨⟨L,rfl,hL⟩,hB4⟩
          have hX4:=hX3.trans hB4
          have g0:=hB4.keep l3 f0
          have g1:=hB4.keep l3 f1
          have g2:=hB4.keep l3 f2
          have g3:=hB4.keep l3 f3
          have g4:=hB4.keep l3 f4
          clear f0 f1 f2 f3 f4 d0 d1 d2 d3 d4
          by_cases hx:L= [120,109,108]
          ·
           have x1:((bs L).toList==(⟨#[120,109,108]⟩:ByteArray).toList)=true:=by rw[hx,show(⟨#[120,109,108]⟩:ByteArray)=bs [120,109,108] from rfl];exact beq_self_eq_true _
           have x2:((bs L).toList== [120,109,108])=true:=by rw[bs_toList,hx];rfl
           clear hx
           go_wp2_with fail
           go_ret
           exact⟨⟨_,rfl,fun _=>HFN.out kD kD⟩,hX4⟩
          ·
           have x2:((bs L).toList== [120,109,108])=false:=by rw[bs_toList,beq_eq_false_iff_ne];exact hx
           have x1:((bs L).toList==(⟨#[120,109,108]⟩:ByteArray).toList)=false:=by rw[show(⟨#[120,109,108]⟩:ByteArray)=bs [120,109,108] from rfl,bs_toList (l:= [120,109,108])];exact x2
           clear hx
           go_wp2_with fail
           refine(has_any _ _ (by rw[bs_size];exact htx) kD _).mono ?_
           rintro _ wy ⟨⟨bu,rfl,_⟩,hwy⟩
           subst hwy
           cases bu with
           | true=>
            go_wp2_with fail
            go_ret
            exact⟨⟨_,rfl,fun _=>HFN.out kD kD⟩,hX4⟩
           | false=>
            go_wp2_with fail
            refine(has_any _ _ (by rw[bs_size];exact htx) kD _).mono ?_
            rintro _ wy ⟨⟨bv,rfl,_⟩,hwy⟩
            subst hwy
            cases bv with
            | true=>
             go_wp2_with fail
             go_ret
             exact⟨⟨_,rfl,fun _=>HFN.out kD kD⟩,hX4⟩
            | false=>
             by_cases et:tx= []
             ·
              have t1:=bs_nil tx et
              have t2:=bs_nil2 tx et
              clear et
              go_wp2_with fail
              go_ret
              exact⟨⟨_,rfl,fun _=>HFN.out kD kD⟩,hX4⟩
             ·
              have t1:=bs_nnil tx et
              have t2:=bs_nnil2 tx et
              have hs0:0< (bs tx).size:=by rw[bs_size];exact List.length_pos_iff.2 et
              have hsI:(0:Int)< ((bs tx).size:Int):=by omega
              clear et
              go_wp2_with fail
              refine(blank_some _ _).mono ?_
              rintro _ wy ⟨⟨bz,rfl,_⟩,hwy⟩
              subst hwy
              go_wp2_with fail
              go_ret
              exact⟨⟨_,rfl,fun _=>HFN.out kD kD⟩,hX4⟩
        ·
         have q4:(k==4)=false:=by rw[beq_eq_false_iff_ne];exact h4
         go_wp2_with fail
         go_ret
         exact⟨⟨_,rfl,fun h=>by cases h⟩,hX2⟩
theorem cntA_append:∀a b:List Attr,cntA (a++b)=cntA a+cntA b
 | [],b=>by simp[cntA]
 | x::a,b=>by rw[List.cons_append,cntA,cntA,cntA_append a b];omega
theorem cntA_ins (l:List Attr) (k:Nat) (x:Attr):cntA (insAt l k x)=cntA l+(1+x.n.length+x.v.length):=by
 have h:=cntA_append (l.take k) (l.drop k)
 rw[List.take_append_drop]at h
 unfold insAt
 rw[cntA_append,cntA,h];omega
theorem cntA_sort:∀(l out:List Attr),cntA (sortA out l)=cntA out+cntA l
 | [],out=>by simp[sortA,cntA]
 | a::r,out=>by rw[sortA,cntA_sort r,cntA_ins,cntA];omega
theorem cntL_append:∀a b:List Node,cntL (a++b)=cntL a+cntL b
 | [],b=>by simp[cntL]
 | x::a,b=>by rw[List.cons_append,cntL,cntL,cntL_append a b];omega
theorem cntL_ins (l:List Node) (k:Nat) (x:Node):cntL (insAt l k x)=cntL l+cntN x:=by
 have h:=cntL_append (l.take k) (l.drop k)
 rw[List.take_append_drop]at h
 unfold insAt
 rw[cntL_append,cntL,h];omega
mutual
def contN:Node→Node
 | .mk k n t la ks=> .mk k n t (sortA [] la) (contL ks)
def contL:List Node→List Node
 | []=> []
 | n::r=>contN n::contL r
end
mutual
theorem cnt_contN:∀n:Node,cntN (contN n)=cntN n
 | .mk k n t la ks=>by rw[contN,cntN,cntN,cntA_sort,cnt_contL ks];simp[cntA]
theorem cnt_contL:∀l:List Node,cntL (contL l)=cntL l
 | []=>rfl
 | n::r=>by rw[contL,cntL,cntL,cnt_contN n,cnt_contL r]
end
theorem contL_take:∀(l:List Node) (i:Nat) (h:i< l.length),contL (l.take (i+1))=contL (l.take i)++ [contN l[i]]
 | [],i,h=>absurd h (Nat.not_lt_zero _)
 | n::r,0,h=>by simp[contL]
 | n::r,i+1,h=>by
  rw[List.take_succ_cons,List.take_succ_cons,contL,contL,contL_take r i kJ];rfl
theorem contN_eq (n:Node):(contN n).kind=n.kind∧(contN n).name=n.name∧(contN n).text=n.text∧(contN n).attrs=sortA [] n.attrs∧(contN n).kids=contL n.kids:=by
 cases n;rw[contN];exact⟨rfl,rfl,rfl,rfl,rfl⟩
theorem B5.set3 {W:World} {b:Nat} {n m:Node} {xa xk:Value} (h:B5 W b n xa xk) (ya:Value) (h0:m.kind=n.kind) (h1:m.name=n.name) (h2:m.text=n.text):B5 (W.setCell ⟨b,3,none⟩ ya) b m ya xk:=by
 have hlt:=h.lt
 have c0:=h.c0;have c1:=h.c1;have c2:=h.c2;have c3:=h.c3;have c4:=h.c4
 have f0:=h.f0;have f1:=h.f1;have f2:=h.f2;have f3:=h.f3;have f4:=h.f4
 exact⟨by simpa using hlt,by rw[h0];simp[go_sem, *],by rw[h1];simp[go_sem, *],by rw[h2];simp[go_sem, *],by simp[go_sem, *],by simp[go_sem, *],by simp[go_sem, *],by simp[go_sem, *],by simp[go_sem, *],by simp[go_sem, *],by simp[go_sem, *]⟩
theorem B5.set4 {W:World} {b:Nat} {n m:Node} {xa xk:Value} (h:B5 W b n xa xk) (yk:Value) (h0:m.kind=n.kind) (h1:m.name=n.name) (h2:m.text=n.text):B5 (W.setCell ⟨b,4,none⟩ yk) b m xa yk:=by
 have hlt:=h.lt
 have c0:=h.c0;have c1:=h.c1;have c2:=h.c2;have c3:=h.c3;have c4:=h.c4
 have f0:=h.f0;have f1:=h.f1;have f2:=h.f2;have f3:=h.f3;have f4:=h.f4
 exact⟨by simpa using hlt,by rw[h0];simp[go_sem, *],by rw[h1];simp[go_sem, *],by rw[h2];simp[go_sem, *],by simp[go_sem, *],by simp[go_sem, *],by simp[go_sem, *],by simp[go_sem, *],by simp[go_sem, *],by simp[go_sem, *],by simp[go_sem, *]⟩
theorem rows_set {w:World} {base z n:Nat} {e:TypeId} {v:Value} {us:List Value} (h:w.ownsRow base e z v n us) {p:Addr} (hb:some p.block≠v.ownBlock) (u:Value):(w.setCell p u).ownsRow base e z v n us:=by
 refine⟨h.1,?_⟩
 rcases h.2 with h2 | ⟨g,cap,cur,rfl,hg,hblk,hr⟩
 ·
  exact .inl h2
 ·
  refine .inr ⟨g,cap,cur,rfl,hg,?_,hr⟩
  rw[Below.heap_setCell _ _ _ _ (by intro e;exact hb (by rw[←e];rfl))]
  exact hblk
theorem new_cells {w:World} {e:TypeId} (cs:List Value):∀(j:Nat) (v:Value),cs[j]? =some v→(w.alloc (.cells cs.toArray e)).cell? ((⟨w.heap.size,0,none⟩:Addr).add j)=some v:=fun j v hj=>by
 rw[add_offs',Nat.zero_add]
 have:(w.alloc (.cells cs.toArray e)).heap[w.heap.size]? =some (.cells cs.toArray e):=Array.getElem?_push_size ..
 unfold World.cell?
 rw[this]
 simp[hj]
theorem infoNode:(Tryz.prog.info? 66).map (fun i=>(i.zero,i.size,i.bytes))=some (some (.agg #[.int .i64 0,.string ⟨#[]⟩,.string ⟨#[]⟩,.slice none 0 0,.slice none 0 0]),5,88):=by kernel_rfl
theorem content_any:∀(N:Nat) (ks:List Node) (p:Nat→Prop) (v:Value) (w:World),(∀(i:Nat) (h:i< ks.length),nsz ks[i]≤N)→cntL ks≤1048576→Rep w p v (nodesD ks)→
  Calls Tryz.prog 112 #[v] w fun e w'=>Ret (fun b=>w.heap.size≤b) (nodesD (contL ks)) e w'∧Ext w w':=by
 intro N
 induction N with
 | zero=>
  intro ks p v w hN hcnt hv
  have h0:ks= []:=by
   cases ks with
   | nil=>rfl
   | cons n r=>have:=hN 0 kI;cases n;simp[nsz]at this
  subst h0
  obtain⟨a,c,rfl,hc1,hc2⟩:=hv.count z_node kA
  go_enter Tryz.func112,Tryz.ntmps112
  go_wp2_with fail
  go_loopw [3,4,5] (fun o t _ wr=>t= .int .i64 0∧o= .slice none 0 0∧wr=w) (fun _ _ _ _=>0)
  case atStart=>exact⟨rfl,rfl,rfl⟩
  case round=>
   obtain⟨rfl,rfl,rfl⟩:=hrel
   go_wp2_with fail
   go_ret
   exact⟨⟨_,rfl,.nil 5⟩,Ext.refl _⟩
 | succ N ih=>
  intro ks p v w hN hcnt hv
  obtain⟨a,c,rfl,hc1,hc2⟩:=hv.count z_node kA
  obtain⟨i0,hi,hz0,hz1,hz2⟩:=info_parts infoNode
  obtain⟨R,hR⟩:∃R,contL ks=R:=⟨_,rfl⟩
  rw[hR]
  have HR:=Lh hR
  have HM:=Lh hN
  have hkl:=cntL_len ks
  have HCM:Hid (∀(i:Nat) (h:i< ks.length),cntN ks[i]≤1048576):=Lh (fun i h=>by have:=cntL_mem ks i h;omega)
  have IH:=Lh ih
  clear hR hN ih
  go_enter Tryz.func112,Tryz.ntmps112
  go_wp2_with fail
  go_loopw [3,4,5] (fun o t _ wr=>∃(i:Nat) (L:List Node) (dv:Value),t= .int .i64 i∧dv=o∧i≤ks.length∧L.length≤i∧Ext w wr∧Hid (Own wr (fun b=>w.heap.size≤b) w.heap.size 66 5 dv L.length (L.flatMap nodeC)∧L=contL (ks.take i))) (fun _ t _ _=>downV ks.length t)
  case atStart=>exact⟨0,[],_,rfl,rfl,Nat.zero_le _,Nat.le_refl _,Ext.refl _,Lh ⟨Own.nil _ _ _ _ _,by simp[contL]⟩⟩
  case round=>
   obtain⟨i,L,dv,rfl,rfl,hi2,hL,hX,HH⟩:=hrel
   have hi0:=nZ0 i
   have hwz:=hX.size
   by_cases hlt:i< ks.length
   ·
    have hlI:(i:Int)< (ks.length:Int):=by omega
    obtain⟨g,o,za,zk,rfl,lg,_,d0,d1,d2,d3,d4,hza,hzk⟩:=node_at (hv.ext hX) i hlt
    have hm:=HM.out i hlt
    have hcm:=HCM.out i hlt
    have hnl:=node_len hv i hlt
    have HS:Hid (contL (ks.take (i+1))=contL (ks.take i)++ [contN ks[i]]):=Lh (contL_take ks i hlt)
    obtain⟨x,hx⟩:∃x,ks[i]=x:=⟨_,rfl⟩
    rw[hx]at d0 d1 d2 hza hzk hm hcm hnl HS
    clear hx
    have hck:=cnt_kids x
    have hal:=cntA_len x.attrs
    have hnk:∀(j:Nat) (h:j< x.kids.length),nsz x.kids[j]≤N:=fun j h=>by have:=kid_lt x j h;omega
    have HA:=Lh fun W (hE:Ext wr W)=>attrsort_any x.attrs p za W kA (hza.ext hE)
    have HC:=Lh fun W (hE:Ext wr W)=>IH.out x.kids p zk W hnk kA (hzk.ext hE)
    have HXE:=Lh (contN_eq x)
    clear hck hal hnk hm hcm
    obtain⟨zab,zac,rfl,_,_⟩:=hza.count z_attr kA
    obtain⟨zkb,zkc,rfl,_,_⟩:=hzk.count z_node kA
    clear hza hzk
    go_wp2_with fail
    obtain⟨w2,hw2⟩:∃w2,wr.alloc (.cells #[.int .i64 x.kind,.string (bs x.name),.string (bs x.text),.slice zab x.attrs.length zac,.slice zkb x.kids.length zkc] 66)=w2:=⟨_,rfl⟩
    have hE2:Ext wr w2:=by rw[←hw2];exact(Ext.refl wr).alloc _
    have hs2:w2.heap.size=wr.heap.size+1:=by rw[←hw2];simp
    have hb2:B5 w2 wr.heap.size x (.slice zab x.attrs.length zac) (.slice zkb x.kids.length zkc):=by
     rw[←hw2]
     exact⟨by simp,by simp[go_sem],by simp[go_sem],by simp[go_sem],by simp[go_sem],by simp[go_sem],by simp[go_sem],by simp[go_sem],by simp[go_sem],by simp[go_sem],by simp[go_sem]⟩
    rw[hw2]
    clear hw2 d0 d1 d2 d3 d4
    refine(HA.out _ hE2).mono ?_
    rintro e w3 ⟨⟨ua,rfl,hua⟩,hB3⟩
    obtain⟨uaa,uac,rfl,_,_⟩:=hua.count z_attr kA
    obtain⟨nA,hnA⟩:∃n,(sortA [] x.attrs).length=n:=⟨_,rfl⟩
    rw[hnA]at hua⊢
    clear hnA
    have hb3:=hb2.ext hB3
    have hE3:=hE2.trans hB3
    clear HA
    have f3:=hb3.f3
    have c3:=hb3.c3
    have c4:=hb3.c4
    go_wp2_with fail
    obtain⟨w4,hw4⟩:∃w4,w3.setCell ⟨wr.heap.size,3,none⟩ (.slice uaa nA uac)=w4:=⟨_,rfl⟩
    have hb4:B5 w4 wr.heap.size x (.slice uaa nA uac) (.slice zkb x.kids.length zkc):=by rw[←hw4];exact hb3.set3 (.slice uaa nA uac) rfl rfl rfl
    have hE4:Ext wr w4:=by rw[←hw4];exact hE3.set (Nat.le_refl _) _
    have hua4:Rep w4 (fun b=>w2.heap.size≤b) (.slice uaa nA uac) (attrsD (sortA [] x.attrs)):=by rw[←hw4];exact hua.kept fun b hb hlt=>Below.heap_setCell _ _ _ _ kS
    have hs4:w2.heap.size≤w4.heap.size:=by rw[←hw4];simpa using hB3.size
    rw[hw4]
    clear hw4 c3 c4 f3 hb3 hua hB3 hE3
    refine(HC.out _ hE4).mono ?_
    rintro e w5 ⟨⟨uk,rfl,huk⟩,hB5⟩
    obtain⟨uka,ukc,rfl,_,_⟩:=huk.count z_node kA
    obtain⟨nK,hnK⟩:∃n,(contL x.kids).length=n:=⟨_,rfl⟩
    rw[hnK]at huk⊢
    clear hnK
    have hb5:=hb4.ext hB5
    have hE5:=hE4.trans hB5
    have hua5:=hua4.ext hB5
    have hs5:=hB5.size
    have f4:=hb5.f4
    have c4:=hb5.c4
    obtain⟨us,hrowr,hreps⟩:=HH.out.1.rows
    have hrow:=rows_ext hrowr hE5
    have hrow0:Hid (∀b,some b=dv.ownBlock→b< wr.heap.size):=Lh (fun b hb=>by obtain⟨us',h',_⟩:=HH.out.1.rows;exact(h'.lt b hb.symm).2)
    have hne:some wr.heap.size≠dv.ownBlock:=fun e=>by have:=hrow0.out _ e;omega
    have hb6:B5 (w5.setCell ⟨wr.heap.size,4,none⟩ (.slice uka nK ukc)) wr.heap.size x (.slice uaa nA uac) (.slice uka nK ukc):=hb5.set4 (.slice uka nK ukc) rfl rfl rfl
    have hrow6:=rows_set hrow (p:=⟨wr.heap.size,4,none⟩) hne (.slice uka nK ukc)
    have hE6:Ext wr (w5.setCell ⟨wr.heap.size,4,none⟩ (.slice uka nK ukc)):=hE5.set (Nat.le_refl _) _
    have e0:=hb6.c0;have e1:=hb6.c1;have e2:=hb6.c2;have e3:=hb6.c3;have e4:=hb6.c4
    have hz5:w.heap.size≤w5.heap.size:=by omega
    have HU:=Lh (And.intro hua5 (And.intro huk (And.intro hreps (And.intro hrow (And.intro hE6 (And.intro hs2 (And.intro hs4 hs5)))))))
    clear hua5 huk hreps hrow hE6 hrowr hb5 hb4 hua4 hE4 hB5 hE5 hne hs4 hs5 HC hb2 hE2 hs2
    go_wp2_with (at_builtin;refine wpList_append_own_at _ rfl (.tmp 24) (.tmp 26) _ rfl w.heap.size 66 i0 (.agg #[.int .i64 0,.string ⟨#[]⟩,.string ⟨#[]⟩,.slice none 0 0,.slice none 0 0]) 5 88 Tryz.underlying23 hi hz0 hz1 hz2 rfl kD dv L.length us rfl (hrow6.alloc _) ⟨w5.heap.size,0,none⟩ 1 1 [.int .i64 x.kind,.string (bs x.name),.string (bs x.text),(.slice uaa nA uac),(.slice uka nK ukc)] rfl rfl (by have:=new_cells (w:=w5.setCell ⟨wr.heap.size,4,none⟩ (.slice uka nK ukc)) (e:=66) [.int .i64 x.kind,.string (bs x.name),.string (bs x.text),(.slice uaa nA uac),(.slice uka nK ukc)];simpa using this) kL kC kA kM ?_;intro v2 w7 hown7 hgrow7 _ hat7)
    have hX7:Ext w w7:=(hX.trans HU.out.2.2.2.2.1).grown_own hrow6 hgrow7
    have hLL:Hid (L++ [contN x]=contL (ks.take (i+1))):=Lh (by rw[HS.out,HH.out.2])
    have hO7:Own w7 (fun b=>w.heap.size≤b) w.heap.size 66 5 v2 (L++ [contN x]).length ((L++ [contN x]).flatMap nodeC):=by
     rw[List.length_append,List.flatMap_append,List.flatMap_singleton,nodeC_eq,HXE.out.1,HXE.out.2.1,HXE.out.2.2.1,HXE.out.2.2.2.1,HXE.out.2.2.2.2]
     obtain⟨hua5,huk,hreps,hrow,hE6,hs2,hs4,hs5⟩:=HU.out
     have hset:∀(b:Nat),w2.heap.size≤b→(w5.setCell ⟨wr.heap.size,4,none⟩ (.slice uka nK ukc)).heap[b]? =w5.heap[b]? :=fun b hb=>Below.heap_setCell _ _ _ _ kS
     refine Own.push (us:=us) ?_ (Reps.cons (Rep.int _ _ _ _) (Reps.cons (Rep.string _ _ _ (by rw[bs_size];exact hnl.1)) (Reps.cons (Rep.string _ _ _ (by rw[bs_size];exact hnl.2)) (Reps.cons (e:=attrsD (sortA [] x.attrs)) ?_ (Reps.cons (e:=nodesD (contL x.kids)) ?_ (Reps.nil _ _)))))) hown7 hgrow7 hat7
     ·
      exact(hreps.ext (hE6.alloc _)).ok fun b hb=>⟨hb.1,hb.2.1,by simp;omega⟩
     ·
      refine((hua5.kept fun b hb hlt=>hset b hb).ext ((Ext.refl _).alloc _)).lt.ok fun b hb=>⟨by omega,fun e=> ?_,hb.2⟩
      have:=hrow0.out b e
      omega
     ·
      refine((huk.kept fun b hb hlt=>hset b kA).ext ((Ext.refl _).alloc _)).lt.ok fun b hb=>⟨by omega,fun e=> ?_,hb.2⟩
      have:=hrow0.out b e
      omega
    clear hown7 hgrow7 hat7 hrow6 hb6 HU
    go_wp2_with fail
    go_roundw
    case rel=>exact⟨i+1,L++ [contN x],v2,by go_num,rfl,by omega,by rw[List.length_append];simp;omega,hX7,Lh ⟨hO7,hLL.out⟩⟩
    case measure=>exact mZ
   ·
    have hlI:¬(i:Int)< (ks.length:Int):=by omega
    obtain⟨hown,hLc⟩:=HH.out
    have HN:Hid (L=R):=Lh (by rw[hLc,List.take_of_length_le kA,HR.out])
    clear HH
    go_wp2_with fail
    go_ret
    refine⟨⟨dv,rfl,?_⟩,hX⟩
    rw[←HN.out]
    exact hown.rep.ok (fun b hb=>by rcases hb with h | h<;> exact h)
def QLast (P:Program) (ops:Array Oper) (last:Nat) (Q:Exit→Act→World→Prop):Exit→Act→World→Prop
 | .normal,a,w=>wpOp P ops Q last (fun a w=>Q .normal a w) a w
 | e,a,w=>Q e a w
section
variable {P:Program} {ops ops':Array Oper} {Q:Exit→Act→World→Prop}
theorem ready_eq (hsz:ops'.size=ops.size) (ha:∀i:Nat,(ops'[i]?).map (·.after)=(ops[i]?).map (·.after)) (listed:Array Bool):Region.ready .any ops' listed=Region.ready .any ops listed:=by
 unfold Region.ready
 rw[hsz]
 refine List.filter_congr fun i _=> ?_
 have h:=ha i
 cases h1:ops'[i]? <;> cases h2:ops[i]? <;> simp_all
theorem yielded_eq (hd:∀i:Nat,(ops'[i]?).bind (·.dst)=(ops[i]?).bind (·.dst)) (tmps:Array Value):yielded ops' tmps=yielded ops tmps:=by
 funext j
 unfold yielded
 rw[hd j]
theorem upon_qlast (last:Nat) (o:Oper) (a:Act) (K:Act→World→Prop) (r:Result Next) (h:o.upon P a K (QLast P ops last Q) r):o.upon P a K Q r:=by
 cases r with
 | ok n w'=>
  cases n
  case enter f args=>
   refine Calls.mono h fun e w'' he=> ?_
   cases e<;> exact he
  all_goals exact h
 | halt x w'=>cases x<;> exact h
theorem ready_some (hord:∀(i:Nat) (o:Oper),ops[i]? =some o→∀e∈o.after,Region.binds .any e=true→e.on< i) (listed:Array Bool) (k:Nat) (hk:k< ops.size) (hl:listed.getD k true=false) (hls:listed.size=ops.size):
  ∃i,i∈Region.ready .any ops listed:=by
 induction k using Nat.strongRecOn with
 | ind k ih=>
  by_cases h:∃j,j< k∧listed.getD j true=false
  ·
   obtain⟨j,hj,hlj⟩:=h
   exact ih j hj kA hlj
  ·
   refine⟨k,?_⟩
   unfold Region.ready
   rw[List.mem_filter]
   refine⟨List.mem_range.2 hk,?_⟩
   rw[hl]
   obtain⟨o,ho⟩:∃o,ops[k]? =some o:=⟨_,Array.getElem?_eq_getElem hk⟩
   rw[ho]
   simp only[Bool.not_false,Bool.true_and,Option.map_some,Option.getD_some,List.all_eq_true,Bool.or_eq_true,Bool.not_eq_true',Array.all_eq_true']
   intro e he
   by_cases hb:Region.binds .any e=true
   ·
    right
    have hon:=hord k o ho e he hb
    have h1:¬listed.getD e.on true=false:=fun h2=>h ⟨_,hon,h2⟩
    have hlt:e.on< listed.size:=by omega
    simp[Array.getD,hlt]at h1⊢
    exact h1
   ·
    left;simpa using hb
theorem wpAny_last (last:Nat) (hm:P.follows .mixedOrders=true) (hsz:ops'.size=ops.size) (hl:last< ops.size) (hsame:∀i:Nat,i≠last→ops'[i]? =ops[i]?)
  (ol ol':Oper) (hol:ops[last]? =some ol) (hol':ops'[last]? =some ol') (hd:ol.dst=none) (hd':ol'.dst=none) (haf:ol'.after=ol.after) (hop:ol'.op= .move (.const (.bool true))) (hg:ol'.guard=none)
  (hwait:∀j:Nat,j< ops.size→j≠last→∃e∈ol.after,Region.binds .any e=true∧e.on=j)
  (hord:∀(i:Nat) (o:Oper),ops[i]? =some o→∀e∈o.after,Region.binds .any e=true→e.on< i):
  ∀(fuel:Nat) (listed:Array Bool) (a:Act) (w:World),listed.size=ops.size→listed.getD last true=false→wpAny P .any ops' (QLast P ops last Q) fuel listed a w→wpAny P .any ops Q fuel listed a w:=by
 have ha:∀i:Nat,(ops'[i]?).map (·.after)=(ops[i]?).map (·.after):=fun i=>by
  by_cases h:i=last
  ·
   subst h;rw[hol,hol'];simp[haf]
  ·
   rw[hsame i h]
 have hdd:∀i:Nat,(ops'[i]?).bind (·.dst)=(ops[i]?).bind (·.dst):=fun i=>by
  by_cases h:i=last
  ·
   subst h;rw[hol,hol'];simp[hd,hd']
  ·
   rw[hsame i h]
 have hy:=fun tmps=>yielded_eq (ops:=ops) (ops':=ops') hdd tmps
 have hr:=fun listed=>ready_eq (ops:=ops) (ops':=ops') hsz ha listed
 intro fuel
 induction fuel with
 | zero=>
  intro listed a w hls hll h
  obtain⟨i,hi⟩:=ready_some hord listed last hl hll hls
  have h1:=h.1
  rw[hr]at h1
  rw[h1]at hi;cases hi
 | succ fuel ih=>
  intro listed a w hls hll h
  obtain⟨h0,h1⟩:=h
  rw[hr]at h0 h1
  refine⟨fun he=> ?_,fun i hi=> ?_⟩
  ·
   obtain⟨i,hi⟩:=ready_some hord listed last hl hll hls
   rw[he]at hi;cases hi
  ·
   have h2:=h1 i hi
   by_cases hil:i=last
   ·
    subst hil
    have hall:Region.ready .any ops (listed.setIfInBounds i true)= []:=by
     rw[List.eq_nil_iff_forall_not_mem]
     intro j hj
     unfold Region.ready at hj hi
     rw[List.mem_filter]at hj hi
     have hjs:=List.mem_range.1 hj.1
     by_cases e:j=i
     ·
      subst e
      have:=hj.2
      simp[Array.getD,hls,hl]at this
     ·
      obtain⟨e1,he1,hb1,ho1⟩:=hwait j hjs e
      have h3:=hi.2
      rw[hol]at h3
      simp only[Option.map_some,Option.getD_some,Bool.and_eq_true,Array.all_eq_true']at h3
      have h4:=h3.2 e1 he1
      rw[hb1,ho1]at h4
      have h5:=hj.2
      have hjl:j< listed.size:=by omega
      simp[Array.getD,hjl,Array.getElem_setIfInBounds,Ne.symm e]at h4 h5
      rw[h4]at h5
      simp at h5
    have h3:wpAny P .any ops' (QLast P ops i Q) fuel (listed.setIfInBounds i true) a w:=by
     unfold wpOp at h2
     simp only[hol']at h2
     have hwn:Region.wanted ol' (yielded ops' a.tmps)=true:=by unfold Region.wanted;rw[hg]
     rw[if_pos hwn]at h2
     rcases h2 with h2 | ⟨h2,_⟩
     ·
      have hrun:(execOp a.eval ol').run P w= .ok (.value (.bool true)) w:=by unfold execOp;rw[hop];rfl
      unfold Oper.wp at h2
      rw[hrun,Oper.upon_value,hd']at h2
      exact h2
     ·
      exfalso
      have:=h2.1
      have hrt:((execOp a.eval ol').runT P w #[]).2= #[]:=by unfold execOp;rw[hop];rfl
      rw[hrt]at this
      simp at this
    have h4:QLast P ops i Q .normal a w:=by
     cases fuel with
     | zero=>exact h3.2
     | succ f=>exact h3.1 (by rw[hr];exact hall)
    refine wpOp_mono (fun a w hq=> ?_) h4
    cases fuel with
    | zero=>exact⟨hall,hq⟩
    | succ f=>exact⟨fun _=>hq,fun j hj=>by rw[hall]at hj;cases hj⟩
   ·
    have h3:=wpOp_mono (fun a' w' h'=>ih (listed.setIfInBounds i true) a' w' (by simpa using hls) (by
     have hlt:last< listed.size:=by omega
     simp[Array.getD,hlt,Array.getElem_setIfInBounds]at hll⊢
     exact⟨hil,hll⟩) h') h2
    unfold wpOp at h3⊢
    rw[hsame i hil]at h3
    cases ho:ops[i]? with
    | none=>simp only[ho]at h3;exact h3
    | some o=>
     simp only[ho]at h3⊢
     rw[hy]at h3
     split at h3
     ·
      rename_i hw
      rw[if_pos hw]
      rcases h3 with h3 | ⟨h3,h4⟩
      ·
       exact Or.inl (upon_qlast last o a _ _ h3)
      ·
       exact Or.inr ⟨h3,h4⟩
     ·
      rename_i hw
      rw[if_neg hw]
      exact h3
theorem rg_last {S:World→Prop} {id:Nat} {a:Act} {w:World} (ops':Array Oper) (last:Nat) (ol ol':Oper) (hm:P.follows .mixedOrders=true) (hsz:ops'.size=ops.size) (hl:last< ops.size) (hsame:∀i:Nat,i< ops.size→i≠last→ops'[i]? =ops[i]?)
  (hol:ops[last]? =some ol) (hol':ops'[last]? =some ol') (hd:ol.dst=none) (hd':ol'.dst=none) (haf:ol'.after=ol.after) (hop:ol'.op= .move (.const (.bool true))) (hg:ol'.guard=none)
  (hwait:((List.range ops.size).all fun j=>j==last || ol.after.any fun e=>Region.binds .any e && e.on==j)=true)
  (hord:((List.range ops.size).all fun i=>((ops[i]?).map fun o=>o.after.all fun e=> !Region.binds .any e || decide (e.on< i)).getD true)=true)
  (hS:S w.drew) (h:wpAnyH P .any ops' (QLast P ops last Q) S ops'.size (Array.replicate ops'.size false) a w.drew):(Code.region id ops true).wp P Q a w:=by
 refine wp_region_any hm (wpAny_last (ops':=ops') last hm hsz hl (fun i hi=> ?_) ol ol' hol hol' hd hd' haf hop hg (fun j hj hjl=> ?_) (fun i o ho e he hb=> ?_) ops.size _ a _ kI (by simp[Array.getD,hl]) ?_)
 ·
  by_cases h:i< ops.size
  ·
   exact hsame i h hi
  ·
   rw[Array.getElem?_eq_none kA,Array.getElem?_eq_none kA]
 ·
  have:=(List.all_eq_true.1 hwait) j (List.mem_range.2 hj)
  rw[Bool.or_eq_true]at this
  rcases this with h1 | h1
  ·
   exact absurd (by simpa using h1) hjl
  ·
   simp only[Array.any_eq_true',Bool.and_eq_true,beq_iff_eq]at h1
   obtain⟨e,he,h2⟩:=h1
   exact⟨e,he,h2⟩
 ·
  have hi:i< ops.size:=by
   rcases Nat.lt_or_ge i ops.size with h' | h'
   ·
    exact h'
   ·
    rw[Array.getElem?_eq_none h']at ho;cases ho
  have:=(List.all_eq_true.1 hord) i (List.mem_range.2 hi)
  rw[ho]at this
  simp only[Option.map_some,Option.getD_some,Array.all_eq_true']at this
  have:=this e he
  rw[hb]at this
  simpa using this
 ·
  have:=wpAny_of_held _ _ _ _ h
  rw[hsz]at this
  exact this
end
def QM (R:Act→World→Prop) (Q:Exit→Act→World→Prop):Exit→Act→World→Prop
 | .normal,a,w=>R a w
 | e,a,w=>Q e a w
theorem region_merge {P:Program} {Q:Exit→Act→World→Prop} {c:Code} {a:Act} {w:World} (R:Act→Act→World→Prop) (h1:c.wp P (QM (R a) Q) a w) (h2:∀a' w',R a a' w'→Q .normal a' w'):c.wp P Q a w:=by
 refine Code.wp_mono (fun e a w h=> ?_) h1
 cases e
 case normal=>exact h2 _ _ h
 all_goals exact h
section
variable {P:Program} {ops:Array Oper} {Q:Exit→Act→World→Prop} {S:World→Prop} {fuel:Nat} {listed:Array Bool} {a:Act} {w:World} {K:Act→World→Prop}
theorem tk_call (i:Nat) (d:Option Tmp) (f:FuncId) (vals:Array Value) {oi:Oper} (hi:ops[i]? =some oi) (hd:oi.dst=d) (hw:Region.wanted oi (yielded ops a.tmps)=true)
  (hrun:∀w',(execOp a.eval oi).run P w'= .ok (.enter f vals) w') {R:Value→World→Prop}
  (hc:Calls P f vals w fun e w'=>∃v,e= .returned v∧R v w') (h:∀v w',R v w'→K (a.put d v) w'):wpOp P ops Q i K a w:=by
 unfold wpOp
 simp only[hi,hw,if_true]
 refine Or.inl ?_
 unfold Oper.wp
 rw[hrun w,Oper.upon_enter]
 refine hc.mono fun e w' ⟨v,he,hR⟩=> ?_
 subst he
 dsimp only
 rw[hd]
 exact h v w' hR
theorem tk_write (i:Nat) (d:Option Tmp) (w1:World) {oi:Oper} (hi:ops[i]? =some oi) (hd:oi.dst=d) (hw:Region.wanted oi (yielded ops a.tmps)=true)
  (hrun:(execOp a.eval oi).run P w= .ok .skip w1) (h:K (a.put d undef) w1):wpOp P ops Q i K a w:=by
 unfold wpOp
 simp only[hi,hw,if_true]
 refine Or.inl ?_
 unfold Oper.wp
 rw[hrun,Oper.upon_skip,hd]
 exact h
theorem rg_aside {id:Nat} (last:Nat) (ol:Oper) (hm:P.follows .mixedOrders=true) (hl:last< ops.size) (hol:ops[last]? =some ol) (hd:ol.dst=none)
  (hwait:((List.range ops.size).all fun j=>j==last || ol.after.any fun e=>Region.binds .any e && e.on==j)=true)
  (hord:((List.range ops.size).all fun i=>((ops[i]?).map fun o=>o.after.all fun e=> !Region.binds .any e || decide (e.on< i)).getD true)=true)
  (hS:S w.drew) (h:wpAnyH P .any (ops.setIfInBounds last {ol with op:= .move (.const (.bool true)),guard:=none}) (QLast P ops last Q) S (ops.setIfInBounds last {ol with op:= .move (.const (.bool true)),guard:=none}).size (Array.replicate (ops.setIfInBounds last {ol with op:= .move (.const (.bool true)),guard:=none}).size false) a w.drew):
  (Code.region id ops true).wp P Q a w:=
 rg_last (ops.setIfInBounds last {ol with op:= .move (.const (.bool true)),guard:=none}) last ol {ol with op:= .move (.const (.bool true)),guard:=none} hm kI hl (fun i _ hne=>Array.getElem?_setIfInBounds_ne (Ne.symm hne)) hol (by simp[hl]) hd hd rfl rfl rfl hwait hord hS h
end
theorem qlast_normal {P:Program} {ops:Array Oper} {last:Nat} {Q:Exit→Act→World→Prop} {a:Act} {w:World} (h:wpOp P ops Q last (fun a w=>Q .normal a w) a w):QLast P ops last Q .normal a w:=h
theorem Reps.lt {w:World} {p:Nat→Prop} {us:List Value} {es:List DV} (h:Reps w p us es):Reps w (fun b=>p b∧b< w.heap.size) us es:=⟨h.1,fun k u e hu he=>(h.2 k u e hu he).lt⟩
theorem rep_src {P:Program} {w:World} {p:Nat→Prop} {z:Nat} {t:TypeId} {a:Option Addr} {n cap:Nat} {es:List DV} (h:Rep w p (.slice a n cap) (.s z es)) (ht:P.underlying t=some (.slice (P.elem t))) (hz:∀W,(sizeOf (P.elem t)).run P W= .ok z W):
  ∃us,Reps w p us es∧us.length=n*z∧(∀k,k≤n→∃sv,Src w z sv k (us.take (k*z))∧∀W,(Instr.sliceAt t (.slice a n cap) none (some (.int .i64 k)) none).run P W= .ok sv W)∧
   (∀k,k≤n→∃sv,Src w z sv (n - k) (us.drop (k*z))∧∀W,(Instr.sliceAt t (.slice a n cap) (some (.int .i64 k)) none none).run P W= .ok sv W)∧Src w z (.slice a n cap) n us:=by
 cases h with
 | nil=>
  refine⟨[],Reps.nil _ _,by simp,fun k hk=> ?_,fun k hk=> ?_,.inl ⟨rfl,rfl,rfl⟩⟩
  ·
   obtain rfl:k=0:=by omega
   refine⟨.slice none 0 0,.inl ⟨rfl,rfl,by simp⟩,fun W=> ?_⟩
   rw[run_sliceAt_slice W t _ _ _ _ ht,run_slice_h W t none 0 0 ht .i64 _ kA kA,hz]
   simp[Result.andThen,sliced]
  ·
   obtain rfl:k=0:=by omega
   refine⟨.slice none 0 0,.inl ⟨rfl,rfl,by simp⟩,fun W=> ?_⟩
   rw[run_sliceAt_slice W t _ _ _ _ ht,run_slice_l W t none 0 0 ht .i64 _ kA kA,hz]
   simp[Result.andThen,sliced]
 | emp ad=>
  refine⟨[],Reps.nil _ _,by simp,fun k hk=> ?_,fun k hk=> ?_,.inr ⟨ad,0,rfl,by simp,fun j u h=>by simp at h⟩⟩
  ·
   obtain rfl:k=0:=by omega
   refine⟨sliced (some ad) 0 ((0:Nat):Int).toNat 0 z,.inr ⟨ad,0,by simp[sliced],by simp,fun j u h=>by simp at h⟩,fun W=> ?_⟩
   rw[run_sliceAt_slice W t _ _ _ _ ht,run_slice_h W t _ 0 0 ht .i64 _ kA kA,hz];rfl
  ·
   obtain rfl:k=0:=by omega
   refine⟨sliced (some ad) ((0:Nat):Int).toNat 0 0 z,.inr ⟨ad,0,by simp[sliced],by simp,fun j u h=>by simp at h⟩,fun W=> ?_⟩
   rw[run_sliceAt_slice W t _ _ _ _ ht,run_slice_l W t _ 0 0 ht .i64 _ kA kA,hz];rfl
 | row b off _ _ _ us _ hok hl hu hcap hm hc hr=>
  have hcell:∀j u,us[j]? =some u→w.cell? ⟨b,off+j,none⟩=some u:=hc
  refine⟨us,⟨by rw[hu,hl],hr⟩,hu,fun k hk=> ?_,fun k hk=> ?_,.cells hu hcell⟩
  ·
   have hmul:k*z≤n*z:=Nat.mul_le_mul_right _ hk
   refine⟨sliced (some ⟨b,off,none⟩) 0 ((k:Int).toNat) cap z,?_,fun W=> ?_⟩
   ·
    unfold sliced
    have hlen:(us.take (k*z)).length=k*z:=by rw[List.length_take,hu];omega
    have hcl:∀j u,(us.take (k*z))[j]? =some u→w.cell? ⟨b,off+j,none⟩=some u:=fun j u hj=>by
     rw[List.getElem?_take]at hj
     split at hj
     ·
      exact hcell j u hj
     ·
      cases hj
    by_cases h0:cap=0
    ·
     rw[if_pos h0]
     simp only[Int.toNat_natCast,Nat.sub_zero]
     exact .cells hlen hcl
    ·
     rw[if_neg h0]
     simp only[Int.toNat_natCast,Nat.sub_zero,Option.map_some,add_offs',Nat.zero_mul,Nat.add_zero]
     exact .cells hlen hcl
   ·
    rw[run_sliceAt_slice W t _ _ _ _ ht,run_slice_h W t _ n cap ht .i64 _ kA kA,hz];rfl
  ·
   have hmul:k*z≤n*z:=Nat.mul_le_mul_right _ hk
   have hsub:n*z - k*z=(n - k)*z:=(Nat.sub_mul n k z).symm
   have hlen:(us.drop (k*z)).length=(n - k)*z:=by rw[List.length_drop,hu,hsub]
   refine⟨sliced (some ⟨b,off,none⟩) ((k:Int).toNat) n cap z,?_,fun W=> ?_⟩
   ·
    unfold sliced
    have hcl:∀j u,(us.drop (k*z))[j]? =some u→w.cell? ⟨b,off+k*z+j,none⟩=some u:=fun j u hj=>by
     rw[List.getElem?_drop]at hj
     rw[Nat.add_assoc];exact hcell _ u hj
    simp only[Int.toNat_natCast]
    by_cases h0:cap=k
    ·
     have h1:n=k:=by omega
     have hnil:us.drop (k*z)= []:=List.eq_nil_of_length_eq_zero (by rw[hlen,h1];simp)
     rw[if_pos h0,hnil]
     exact .cells (by rw[h1];simp) (fun j u hj=>by simp at hj)
    ·
     rw[if_neg h0]
     simp only[Option.map_some,add_offs']
     exact .cells hlen hcl
   ·
    rw[run_sliceAt_slice W t _ _ _ _ ht,run_slice_l W t _ n cap ht .i64 _ kA kA,hz];rfl
end Go.Proofs.YtngmgjodcnknoaaGreatDoor
