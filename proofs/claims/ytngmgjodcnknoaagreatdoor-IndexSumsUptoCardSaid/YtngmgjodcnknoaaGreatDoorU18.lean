/-
 Laws drawn from elder texts. Helper lemmas;no statement of the seat is proved here.
-/
import Derived.Test.YtngmgjodcnknoaaGreatDoorU17
namespace Go.Proofs.YtngmgjodcnknoaaGreatDoor
open Go.RowKit
set_option maxHeartbeats 32000000
set_option maxRecDepth 100000
set_option linter.unusedVariables false
set_option linter.unusedSimpArgs false
theorem partsfalse_any (l:List Held) (p:Nat→Prop) (v:Value) (w:World) (hll:l.length≤1048576) (hvl:Rep w p v (heldsD l)):
  Calls Tryz.prog 65 #[v,.bool false] w fun e w'=>Ret (fun b=>p b∨w.heap.size≤b) (partsD (partsP false l)) e w'∧Ext w w':=by
 obtain⟨la,lc,rfl,hlc1,hlc2⟩:=hvl.count z_held kA
 obtain⟨i0,ii,iz0,iz1,iz2⟩:=info_parts infoInt
 obtain⟨j0,ji,jz0,jz1,jz2⟩:=info_parts infoInts
 obtain⟨k0,ki,kz0,kz1,kz2⟩:=info_parts infoPart
 obtain⟨R,hR⟩:∃R,partsG false l ([],[])=R:=⟨_,rfl⟩
 obtain⟨RR,hRR⟩:∃RR,partsP false l=RR:=⟨_,rfl⟩
 have HRR:Hid ((if 1< R.1.length then setV R.1 R.2 else R.1)=RR):=Lh (by rw[←hRR,←hR];rfl)
 rw[hRR]
 have HR:Hid (partsG false (l.drop 0) ([],[])=R):=Lh hR
 clear hR hRR
 go_enter Tryz.func65,Tryz.ntmps65
 go_wp2_with fail
 go_loopw [5,6,7] (fun ov sv t wr=>∃(i:Nat) (oa:Option Addr) (oc:Nat) (da:Option Addr) (dc:Nat) (g:List Part×List (List Int)) (vs:List Value),t= .int .i64 i∧ov= .slice oa g.1.length oc∧sv= .slice da vs.length dc∧i≤l.length∧Ext w wr∧Hid (PGf l false p w wr (.slice oa g.1.length oc) (.slice da vs.length dc) vs g i R)) (fun _ _ t _=>downV l.length t)
 case atStart=>exact⟨0,none,0,none,0,([],[]),[],rfl,rfl,rfl,Nat.zero_le _,Ext.refl _,Lh ⟨Own.nil _ _ _ _ _,F2.nil _ _ _ _ _ _ _,fun b hb=>(by rcases hb with hb | ⟨v,hv,_⟩;cases hb;cases hv),rfl,Nat.zero_le _,fun m hm=>(by cases hm),HR.out⟩⟩
 case round=>
  obtain⟨i,oa,oc,da,dc,g,vs,rfl,rfl,rfl,hi,hX,HH⟩:=hrel
  obtain⟨wo,hwo⟩:∃wo,wo=wr:=⟨_,rfl⟩
  subst hwo
  have hi0:=nZ0 i
  by_cases hlt:i< l.length
  ·
   have hlI:(i:Int)< (l.length:Int):=by omega
   obtain⟨gh,oh,xa,yk,rfl,lgh,hpg,d0,d1,d2,d3,d4,d5,hxa,hyk⟩:=held_at hvl i hlt
   have HSI:Hid (partsG false (l.drop i) g=partsG false (l.drop (i+1)) (addP false l[i] g)):=Lh (by rw[drop_one l i hlt,partsG])
   obtain⟨h,hh⟩:∃h,l[i]=h:=⟨_,rfl⟩
   rw[hh]at d0 d1 d2 d3 hxa hyk HSI
   obtain⟨xab,xac,rfl,_,_⟩:=hxa.count z_attr kA
   obtain⟨ykb,ykc,rfl,_,_⟩:=hyk.count z_node kA
   have n0:=hX.keep lgh d0;have n4:=hX.keep lgh d4;have n5:=hX.keep lgh d5
   have lghr:gh< wo.heap.size:=Nat.lt_of_lt_of_le lgh hX.size
   clear hh d1 d2 d3
   go_wp2_with fail
   obtain⟨wB,hwB⟩:∃wB,(wo.alloc (.cells #[.slice none 0 0,.slice xab h.n.attrs.length xac,(.slice none 0 0)] 157))=wB:=⟨_,rfl⟩
   have hEB:Ext wo wB:=by rw[←hwB];exact(Ext.refl wo).alloc _
   have lB:wo.heap.size< wB.heap.size:=by rw[←hwB];simp
   have b0:wB.cell? ⟨wo.heap.size,0,none⟩=some (.slice none 0 0):=by rw[←hwB];simp[go_sem]
   have b1:wB.cell? ⟨wo.heap.size,1,none⟩=some (.slice xab h.n.attrs.length xac):=by rw[←hwB];simp[go_sem]
   have b2:wB.cell? ⟨wo.heap.size,2,none⟩=some (.slice none 0 0):=by rw[←hwB];simp[go_sem]
   have hXB:=hX.trans hEB
   have HB:=Lh (HH.out.ext hEB)
   have HXA:=Lh (And.intro hxa hyk)
   rw[hwB]
   clear hwB HH n0 n4 n5 d4 d5 hxa hyk hpg
   obtain⟨A0,hA0⟩:∃A0,lastP h.n.attrs (kidsW false h.n) g.1 0 (-1)=A0:=⟨_,rfl⟩
   have hAr:=lastP_range h.n.attrs (kidsW false h.n) g.1.length g.1 0 (-1) kA kA kA
   rw[hA0]at hAr
   have HAR:=Lh (And.intro hAr hA0)
   have HL0:Hid (lastP h.n.attrs (kidsW false h.n) (g.1.drop 0) 0 (-1)=A0):=Lh hA0
   clear hAr hA0
   go_loopw [9,10] (fun av t wq=>∃(k:Nat) (A:Int),av= .int .i64 A∧t= .int .i64 k∧k≤g.1.length∧Ext wB wq∧Hid (lastP h.n.attrs (kidsW false h.n) (g.1.drop k) k A=A0)) (fun _ t _=>downV g.1.length t)
   case atStart=>exact⟨0, -1,rfl,rfl,Nat.zero_le _,Ext.refl _,HL0⟩
   case round=>
    clear HL0
    obtain⟨k,A,rfl,rfl,hk,hQ,HI⟩:=hrel
    obtain⟨wz,hwz⟩:∃wz,wz=wr:=⟨_,rfl⟩
    subst hwz
    have hk0:=nZ0 k
    have hgi:g.1.length≤i:=HB.out.2.2.2.2.1
    have hkm:k≤1048576:=by omega
    have hgm:g.1.length≤1048576:=by omega
    by_cases hkl:k< g.1.length
    ·
     have hkI:(k:Int)< (g.1.length:Int):=by omega
     obtain⟨g1,o1,u0,u1,u2,eoa,lg1,_,e0,e1,e2,hu0,hu1,hu2⟩:=part_at (HB.out.1.rep.ext hQ) k hkl
     cases eoa
     have HS2:Hid (lastP h.n.attrs (kidsW false h.n) (g.1.drop k) k A=lastP h.n.attrs (kidsW false h.n) (g.1.drop (k+1)) (k+1) (if attrsS g.1[k].attrs h.n.attrs=true∧sameL g.1[k].kids []=true then(k:Int)else A)):=Lh (by rw[drop_one g.1 k hkl,lastP];rfl)
     obtain⟨q,hq⟩:∃q,g.1[k]=q:=⟨_,rfl⟩
     rw[hq]at hu1 hu2 HS2
     obtain⟨uaa,uac,rfl,_,_⟩:=hu1.count z_attr kA
     obtain⟨uka,ukc,rfl,_,_⟩:=hu2.count z_node kA
     have c1:=hQ.keep lB b1
     have c2:=hQ.keep lB b2
     have lc1:wo.heap.size< wz.heap.size:=Nat.lt_of_lt_of_le lB hQ.size
     have HC1:=Lh fun W (hE:Ext wz W)=>attrs_any _ p q.attrs h.n.attrs (.slice uaa q.attrs.length uac) (.slice xab h.n.attrs.length xac) W (hu1.ext hE) (HXA.out.1.ext (hXB.trans (hQ.trans hE)))
     have HC2:=Lh fun W (hE:Ext wz W)=>nodes_any _ p q.kids [] (.slice uka q.kids.length ukc) (.slice none 0 0) W (hu2.ext hE) (.nil 5)
     obtain⟨B1,hB1⟩:∃B,attrsS q.attrs h.n.attrs=B:=⟨_,rfl⟩
     obtain⟨B2,hB2⟩:∃B,sameL q.kids []=B:=⟨_,rfl⟩
     rw[hB1]at HC1 HS2
     rw[hB2]at HC2 HS2
     clear hq hB1 hB2 hu0 hu1 hu2 e0
     go_wp2_with fail
     cases B1 with
     | true=>
      refine rg_begin (S:=Sx wz) kB (Sx.begin _) ?_
      have hSz:Sx wz (World.drew wz):=(Sx.begin _)
      refine gT 0 39 (.slice (some ⟨g1,o1,none⟩) g.1.length oc) hSz ?_
      simp only[Act.put,sA,sZ,sS]
      refine gT 1 40 (.int .i64 k) hSz ?_
      simp only[Act.put,sA,sZ,sS]
      refine gT 2 41 (.pointer (some ⟨g1,o1+k*3,none⟩)) hSz ?_
      simp only[Act.put,sA,sZ,sS]
      refine gT 3 42 (.pointer (some ⟨g1,o1+k*3+1,none⟩)) hSz ?_
      simp only[Act.put,sA,sZ,sS]
      refine gT 4 43 (.slice uaa q.attrs.length uac) hSz ?_ (hv:=fun w' hs=>by(have h0:=hs.cell lg1 e1;go_simp))
      simp only[Act.put,sA,sZ,sS]
      refine gT 5 44 (.pointer (some ⟨wo.heap.size,1,none⟩)) hSz ?_
      simp only[Act.put,sA,sZ,sS]
      refine gT 6 45 (.slice xab h.n.attrs.length xac) hSz ?_ (hv:=fun w' hs=>by(have h0:=hs.cell lc1 c1;go_simp))
      simp only[Act.put,sA,sZ,sS]
      refine rg_call 7 (some 46) 98 #[.slice uaa q.attrs.length uac,.slice xab h.n.attrs.length xac] rfl rfl kB (by rfl) (fun w'=>by first | rfl | go_simp) (R:=fun v w'=>v= .bool true∧Ext (World.drew wz) w') ?_ ?_
      ·
       refine(HC1.out (World.drew wz) hSz).mono ?_
       rintro e w' ⟨rfl,h⟩
       exact⟨_,rfl,rfl,h⟩
      rintro _ wrz1 ⟨rfl,hBrz1⟩
      have hSz1:=hSz.ext hBrz1
      refine⟨hSz1,?_⟩
      simp only[Act.put,sA,sZ,sS]
      refine gT 8 47 (.bool true) hSz1 ?_
      simp only[Act.put,sA,sZ,sS]
      refine gT 9 48 (.slice (some ⟨g1,o1,none⟩) g.1.length oc) hSz1 ?_
      simp only[Act.put,sA,sZ,sS]
      refine gT 10 49 (.int .i64 k) hSz1 ?_
      simp only[Act.put,sA,sZ,sS]
      refine gT 11 50 (.pointer (some ⟨g1,o1+k*3,none⟩)) hSz1 ?_
      simp only[Act.put,sA,sZ,sS]
      refine gT 12 51 (.pointer (some ⟨g1,o1+k*3+2,none⟩)) hSz1 ?_
      simp only[Act.put,sA,sZ,sS]
      refine gT 13 52 (.slice uka q.kids.length ukc) hSz1 ?_ (hv:=fun w' hs=>by(have h0:=hs.cell lg1 e2;go_simp))
      simp only[Act.put,sA,sZ,sS]
      refine gT 14 53 (.pointer (some ⟨wo.heap.size,2,none⟩)) hSz1 ?_
      simp only[Act.put,sA,sZ,sS]
      refine gT 15 54 (.slice none 0 0) hSz1 ?_ (hv:=fun w' hs=>by(have h0:=hs.cell lc1 c2;go_simp))
      simp only[Act.put,sA,sZ,sS]
      refine rg_call 16 (some 55) 99 #[.slice uka q.kids.length ukc,.slice none 0 0] rfl rfl kB (by rfl) (fun w'=>by first | rfl | go_simp) (R:=fun v w'=>v= .bool B2∧Ext wrz1 w') ?_ ?_
      ·
       refine(HC2.out wrz1 hSz1).mono ?_
       rintro e w' ⟨rfl,h⟩
       exact⟨_,rfl,rfl,h⟩
      rintro _ wrz2 ⟨rfl,hBrz2⟩
      have hSz2:=hSz1.ext hBrz2
      refine⟨hSz2,?_⟩
      simp only[Act.put,sA,sZ,sS]
      refine gT 17 56 (.bool B2) hSz2 ?_
      simp only[Act.put,sA,sZ,sS]
      refine rg_done kB ?_
      have hQz:Ext wB wrz2:=hQ.trans (show Ext wz wrz2 from hSz2)
      cases B2 with
      | true=>
       have HN:Hid (lastP h.n.attrs (kidsW false h.n) (g.1.drop (k+1)) (k+1) k=A0):=Lh (by rw[←HI.out,HS2.out,if_pos ⟨rfl,rfl⟩])
       clear HS2 HI c1 c2 e1 e2 HC1 HC2
       go_wp2_with fail
       go_roundw
       case rel=>exact⟨k+1,k,rfl,by go_num,by omega,hQz,HN⟩
       case measure=>exact mZ
      | false=>
       have HN:Hid (lastP h.n.attrs (kidsW false h.n) (g.1.drop (k+1)) (k+1) A=A0):=Lh (by rw[←HI.out,HS2.out,if_neg kI])
       clear HS2 HI c1 c2 e1 e2 HC1 HC2
       go_wp2_with fail
       go_roundw
       case rel=>exact⟨k+1,A,rfl,by go_num,by omega,hQz,HN⟩
       case measure=>exact mZ
     | false=>
      refine rg_begin (S:=Sx wz) kB (Sx.begin _) ?_
      have hSz:Sx wz (World.drew wz):=(Sx.begin _)
      refine gT 0 39 (.slice (some ⟨g1,o1,none⟩) g.1.length oc) hSz ?_
      simp only[Act.put,sA,sZ,sS]
      refine gT 1 40 (.int .i64 k) hSz ?_
      simp only[Act.put,sA,sZ,sS]
      refine gT 2 41 (.pointer (some ⟨g1,o1+k*3,none⟩)) hSz ?_
      simp only[Act.put,sA,sZ,sS]
      refine gT 3 42 (.pointer (some ⟨g1,o1+k*3+1,none⟩)) hSz ?_
      simp only[Act.put,sA,sZ,sS]
      refine gT 4 43 (.slice uaa q.attrs.length uac) hSz ?_ (hv:=fun w' hs=>by(have h0:=hs.cell lg1 e1;go_simp))
      simp only[Act.put,sA,sZ,sS]
      refine gT 5 44 (.pointer (some ⟨wo.heap.size,1,none⟩)) hSz ?_
      simp only[Act.put,sA,sZ,sS]
      refine gT 6 45 (.slice xab h.n.attrs.length xac) hSz ?_ (hv:=fun w' hs=>by(have h0:=hs.cell lc1 c1;go_simp))
      simp only[Act.put,sA,sZ,sS]
      refine rg_call 7 (some 46) 98 #[.slice uaa q.attrs.length uac,.slice xab h.n.attrs.length xac] rfl rfl kB (by rfl) (fun w'=>by first | rfl | go_simp) (R:=fun v w'=>v= .bool false∧Ext (World.drew wz) w') ?_ ?_
      ·
       refine(HC1.out (World.drew wz) hSz).mono ?_
       rintro e w' ⟨rfl,h⟩
       exact⟨_,rfl,rfl,h⟩
      rintro _ wrz1 ⟨rfl,hBrz1⟩
      have hSz1:=hSz.ext hBrz1
      refine⟨hSz1,?_⟩
      simp only[Act.put,sA,sZ,sS]
      refine gT 8 47 (.bool false) hSz1 ?_
      simp only[Act.put,sA,sZ,sS]
      refine rg_s 9 (some 48) rfl hSz1 ?_
      simp only[Act.put,sA,sZ,sS]
      refine rg_s 10 (some 49) rfl hSz1 ?_
      simp only[Act.put,sA,sZ,sS]
      refine rg_s 11 (some 50) rfl hSz1 ?_
      simp only[Act.put,sA,sZ,sS]
      refine rg_s 12 (some 51) rfl hSz1 ?_
      simp only[Act.put,sA,sZ,sS]
      refine rg_s 13 (some 52) rfl hSz1 ?_
      simp only[Act.put,sA,sZ,sS]
      refine rg_s 14 (some 53) rfl hSz1 ?_
      simp only[Act.put,sA,sZ,sS]
      refine rg_s 15 (some 54) rfl hSz1 ?_
      simp only[Act.put,sA,sZ,sS]
      refine rg_s 16 (some 55) rfl hSz1 ?_
      simp only[Act.put,sA,sZ,sS]
      refine gT 17 56 (.bool false) hSz1 ?_
      simp only[Act.put,sA,sZ,sS]
      refine rg_done kB ?_
      have hQz:Ext wB wrz1:=hQ.trans (show Ext wz wrz1 from hSz1)
      have HN:Hid (lastP h.n.attrs (kidsW false h.n) (g.1.drop (k+1)) (k+1) A=A0):=Lh (by rw[←HI.out,HS2.out,if_neg kI])
      clear HS2 HI c1 c2 e1 e2 HC1 HC2
      go_wp2_with fail
      go_roundw
      case rel=>exact⟨k+1,A,rfl,by go_num,by omega,hQz,HN⟩
      case measure=>exact mZ
    ·
     have hkI:¬(k:Int)< (g.1.length:Int):=by omega
     have hA:A=A0:=by have:=HI.out;rw[List.drop_of_length_le kA,lastP]at this;exact this
     subst hA
     have hXz0:=hXB.trans hQ
     have HBQ:=Lh (HB.out.ext hQ)
     by_cases hneg:A< 0
     ·
      have c0:=hQ.keep lB b0
      have c1:=hQ.keep lB b1
      have c2:=hQ.keep lB b2
      have lc1:wo.heap.size< wz.heap.size:=Nat.lt_of_lt_of_le lB hQ.size
      have HADD:Hid (addP false h g=(g.1++ [⟨[],h.n.attrs,[]⟩],g.2++ [[h.v]])):=Lh (by unfold addP;rw[HAR.out.2,if_pos hneg];rfl)
      obtain⟨usO,hrowO,hrepO⟩:=HBQ.out.1.rows
      obtain⟨W1,hW1⟩:∃W1,wz.alloc (.cells #[.slice none 0 0,.slice xab h.n.attrs.length xac,(.slice none 0 0)] 157)=W1:=⟨_,rfl⟩
      have hEz:Ext wz W1:=by rw[←hW1];exact(Ext.refl wz).alloc _
      have hX1:=hXz0.trans hEz
      have hnews:Reps W1 (fun b=>p b∧b< w.heap.size) [.slice none 0 0,.slice xab h.n.attrs.length xac,(.slice none 0 0)] (partC ⟨[],h.n.attrs,[]⟩):=Reps.cons (.nil 2) (Reps.cons (HXA.out.1.lt.ext hX1) (Reps.cons (.nil 5) (Reps.nil _ _)))
      have HGR:=Lh fun(v2:Value) (w3:World) hown hg hat=>parts_app HBQ.out hXz0 hEz hnews hrowO hrepO (v2:=v2) (w3:=w3) hown hg hat
      rw[←hW1]at HGR
      have HPP:=Lh (And.intro HBQ.out.2.2.2.1 HBQ.out.2.2.2.2.2.1)
      have HPE:=Lh HBQ.out.2.2.2.2.2.2
      have hvsl:vs.length≤1048576:=by have:=HBQ.out.2.1.len;have:=HBQ.out.2.2.2.1;omega
      have hsz1:=hXz0.size
      clear HI HB HAR b0 b1 b2 HBQ hEz hW1 hnews hrepO hX1
      go_wp2_with (first
       | (at_builtin;refine wpList_append_own_at _ rfl (.tmp 60) (.tmp 62) _ rfl w.heap.size 157 k0 (.agg #[.slice none 0 0,.slice none 0 0,.slice none 0 0]) 3 72 Tryz.underlying29 ki kz0 kz1 kz2 rfl kD (.slice oa g.1.length oc) g.1.length usO rfl (hrowO.alloc _) ⟨wz.heap.size,0,none⟩ 1 1 [.slice none 0 0,.slice xab h.n.attrs.length xac,(.slice none 0 0)] rfl rfl (new_cells _) (by intro u hu;simp at hu;rcases hu with rfl | rfl | rfl<;> rfl) kC kA kM ?_;intro v2 w3 hown2 hgrow2 _ hat2;obtain⟨o2a,o2c,rfl⟩:=own_form hown2;have H3:=Lh (HGR.out _ _ hown2 hgrow2 hat2);have hFd:=H3.out.1.2.1.d.alloc (.cells #[.slice none 0 0] 91);have hX3:=H3.out.2.size;clear HGR hown2 hgrow2 hat2 hrowO)
       | (at_builtin;refine wpList_append_own_at _ rfl (.tmp 64) (.tmp 65) _ rfl w.heap.size 91 j0 (.slice none 0 0) 1 24 Tryz.underlying173 ji jz0 jz1 jz2 rfl kD (.slice da vs.length dc) vs.length vs rfl hFd ⟨w3.heap.size,0,none⟩ 1 1 [.slice none 0 0] rfl rfl (new_cells _) kT kC kA kM ?_;intro v4 w5 hown4 hgrow4 _ hat4))
      obtain⟨d4a,d4c,rfl⟩:=own_form hown4
      have hE3:Ext w3 (w3.alloc (.cells #[.slice none 0 0] 91)):=(Ext.refl w3).alloc _
      obtain⟨hF5,hM5⟩:=H3.out.1.2.1.snoc hE3 (fun b hb=>hb.2) hown4 hgrow4 hat4
      have hO5:=(H3.out.1.1.ext hE3).keep hgrow4 (by
       cases hb:(Value.slice o2a (g.1.length+1) o2c).ownBlock with
       | none=>exact .inl rfl
       | some b=>right;intro e;exact H3.out.1.2.2 b (.inl e) hb.symm) (fun b e hb=>by have:=(own_lt H3.out.1.2.1.d e.symm).1;have:=hb.2;omega)
      have hXz:Ext w w5:=Below.grown (H3.out.2.trans hE3) hgrow4 (Below.size (H3.out.2.trans hE3)) fun k hk=>(own_lt H3.out.1.2.1.d hk.symm).1
      have hA5:∀b,Mut (.slice d4a (vs.length+1) d4c) (vs++ [.slice none 0 0]) b→some b≠(Value.slice o2a (g.1.length+1) o2c).ownBlock:=fun b hb e=>by
       rcases hM5 b hb with hm | hm
       ·
        exact H3.out.1.2.2 b hm e
       ·
        obtain⟨us,hro,_⟩:=(H3.out.1.1.ext hE3).rows
        have:=(own_lt hro e).2;omega
      obtain⟨P2,hP2⟩:∃P,g.1++ [(⟨[],h.n.attrs,[]⟩:Part)]=P:=⟨_,rfl⟩
      have hP2l:g.1.length+1=P2.length:=by rw[←hP2];simp
      obtain⟨L2,hL2⟩:∃L,g.2++ [([]:List Int)]=L:=⟨_,rfl⟩
      obtain⟨vs2,hvs2⟩:∃x,vs++ [Value.slice none 0 0]=x:=⟨_,rfl⟩
      have hvs2l:vs.length+1=vs2.length:=by rw[←hvs2];simp
      have hgv:vs.length=g.1.length:=by rw[H3.out.1.2.1.len,HPP.out.1]
      have HNX:Hid (∀lJ,L2[g.1.length]? =some lJ→partsG false (l.drop (i+1)) (P2,L2.set g.1.length (lJ++ [h.v]))=R):=Lh fun lJ hlJ=>by
       rw[←hL2,HPP.out.1,List.getElem?_append_right (Nat.le_refl _),Nat.sub_self]at hlJ
       cases hlJ
       rw[←hL2,←hP2,HPP.out.1,List.set_append_right _ _ (Nat.le_refl _),Nat.sub_self]
       have e1:=HPE.out
       rw[HSI.out,HADD.out]at e1
       exact e1
      have HLB:Hid (∀m∈L2,m.length≤i):=Lh fun m hm=>by
       rw[←hL2]at hm
       rcases List.mem_append.1 hm with hm | hm
       ·
        exact HPP.out.2 m hm
       ·
        simp at hm;subst hm;simp
      have HPL:Hid (P2.length=L2.length):=Lh (by rw[←hP2,←hL2];simp[HPP.out.1])
      have hP2i:P2.length≤i+1:=by omega
      obtain⟨J,hJe⟩:∃J,g.1.length=J:=⟨_,rfl⟩
      rw[hP2,hP2l]at hO5
      rw[hP2l,hvs2l,hvs2]at hA5
      rw[hvs2l,hvs2,hL2]at hF5
      rw[hJe]at HNX hgv
      rw[hP2l,hvs2l,hJe]
      have hJ:J< vs2.length:=by omega
      have HQ:Hid (Own w5 (fun b=>p b∧b< w.heap.size) w.heap.size 157 3 (.slice o2a P2.length o2c) P2.length (P2.flatMap partC)∧F2 w5 (fun b=>p b∧b< w.heap.size) w.heap.size 91 3 1 (fun x=> [intD x]) (.slice d4a vs2.length d4c) vs2 L2∧∀b,Mut (.slice d4a vs2.length d4c) vs2 b→some b≠(Value.slice o2a P2.length o2c).ownBlock):=Lh ⟨hO5,hF5,hA5⟩
      clear hO5 hF5 hA5 hM5 hE3 hown4 hgrow4 hat4 H3 HPP HPE HSI HADD hP2 hL2 hvs2 hFd c0 c1 c2 lc1 hP2l hvs2l hgv hJe HXA hX3 hneg hsz1
      have hJL:J< L2.length:=by rw[←HQ.out.2.1.len];exact hJ
      obtain⟨gd,dcn,edv,hgd,hgd2⟩:=own_some HQ.out.2.1.d kA
      cases edv
      have z0':=HQ.out.2.1.d.cellAt J kA
      obtain⟨vJ,hvJ⟩:∃v,vs2[J]? =some v:=⟨_,List.getElem?_eq_getElem hJ⟩
      obtain⟨lJ,hlJ⟩:∃v,L2[J]? =some v:=⟨_,List.getElem?_eq_getElem hJL⟩
      have hlJb:lJ.length≤i:=HLB.out lJ (List.mem_of_getElem? hlJ)
      have z0:w5.cell? ⟨gd,J,none⟩=some vJ:=z0'.trans hvJ
      have zf:=HQ.out.2.1.d.frozenAt J
      obtain⟨usJ,husJ,hrepJ⟩:=(HQ.out.2.1.own J vJ lJ hvJ hlJ).rows
      have hJn:vJ.ownBlock=none∨vJ.ownBlock≠some gd:=HQ.out.2.1.out vJ (List.mem_of_getElem? hvJ)
      have lz0:gd< w5.heap.size∧some gd≠vJ.ownBlock:=⟨hgd,fun e=>by rcases hJn with h1 | h1;rw[h1]at e;cases e;exact h1 e.symm⟩
      have z1:=hXz.keep lgh d0
      have lz1:gh< w5.heap.size∧some gh≠vJ.ownBlock:=⟨Nat.lt_of_lt_of_le lgh hXz.size,fun e=>by have:=(own_lt husJ e).1;omega⟩
      have HRJ:=Lh hrepJ
      have HVJ:=Lh (And.intro hvJ hlJ)
      clear z0' hrepJ hvJ hlJ hJn
      refine region_merge (fun ac ac' w'=>∃(gb:Nat) (v3:Value) (xb:World) (xc:World),ac'=((((((((((((((ac.put (some 70) (.slice (some ⟨gd,0,none⟩) vs2.length d4c)).put (some 71) (.int .i64 J)).put (some 72) (.slice (some ⟨gd,0,none⟩) vs2.length d4c)).put (some 73) (.int .i64 J)).put (some 74) (.pointer (some ⟨gd,J,none⟩))).put (some 75) (vJ)).put (some 76) (.slice (some ⟨gh,oh,none⟩) l.length lc)).put (some 77) (.int .i64 i)).put (some 78) (.pointer (some ⟨gh,oh+i*6,none⟩))).put (some 79) (.pointer (some ⟨gh,oh+i*6,none⟩))).put (some 80) (.int .i64 h.v)).put (some 81) (.slice (some ⟨gb,0,none⟩) 1 1)).put (some 82) (v3)).put (some 83) (.pointer (some ⟨gd,J,none⟩)))∧w'=xc.setCell ⟨gd,J,none⟩ v3∧Ext w5 xb∧World.ownsRow xc w.heap.size 3 1 v3 (lJ.length+1) (usJ++ [.int .i64 h.v])∧World.grownBy xb xc vJ.ownBlock∧(v3.ownBlock=vJ.ownBlock∨v3.ownBlock=some xb.heap.size)) ?_ ?_
      ·
       refine rg_aside (S := Sr vJ w5) 14 ⟨none, .store 91 (.tmp 83) (.tmp 82), 0, "ref.go:48", #[⟨13, .data⟩, ⟨12, .data⟩, ⟨12, .chain⟩, ⟨0, .phase⟩, ⟨1, .phase⟩, ⟨2, .phase⟩, ⟨3, .phase⟩, ⟨4, .phase⟩, ⟨5, .phase⟩, ⟨6, .phase⟩, ⟨7, .phase⟩, ⟨8, .phase⟩, ⟨9, .phase⟩, ⟨10, .phase⟩, ⟨11, .phase⟩, ⟨12, .phase⟩], none⟩ kB kD rfl rfl kB kB (Sr.begin _ _) ?_
       have hSy:Sr vJ w5 (World.drew w5):=(Sr.begin _ _)
       simp only[List.setIfInBounds_toArray,List.set_cons_zero,List.set_cons_succ]
       refine gT 0 70 (.slice (some ⟨gd,0,none⟩) vs2.length d4c) hSy ?_
       simp only[Act.put,sA,sZ,sS]
       refine gT 1 71 (.int .i64 J) hSy ?_
       simp only[Act.put,sA,sZ,sS]
       refine gT 2 72 (.slice (some ⟨gd,0,none⟩) vs2.length d4c) hSy ?_
       simp only[Act.put,sA,sZ,sS]
       refine gT 3 73 (.int .i64 J) hSy ?_
       simp only[Act.put,sA,sZ,sS]
       refine gT 4 74 (.pointer (some ⟨gd,J,none⟩)) hSy ?_
       simp only[Act.put,sA,sZ,sS]
       refine gT 5 75 (vJ) hSy ?_ (hv:=fun w' hs=>by(have h0:=hs.cell lz0 z0;go_simp))
       simp only[Act.put,sA,sZ,sS]
       refine gT 6 76 (.slice (some ⟨gh,oh,none⟩) l.length lc) hSy ?_
       simp only[Act.put,sA,sZ,sS]
       refine gT 7 77 (.int .i64 i) hSy ?_
       simp only[Act.put,sA,sZ,sS]
       refine gT 8 78 (.pointer (some ⟨gh,oh+i*6,none⟩)) hSy ?_
       simp only[Act.put,sA,sZ,sS]
       refine gT 9 79 (.pointer (some ⟨gh,oh+i*6,none⟩)) hSy ?_
       simp only[Act.put,sA,sZ,sS]
       refine gT 10 80 (.int .i64 h.v) hSy ?_ (hv:=fun w' hs=>by(have h0:=hs.cell lz1 z1;go_simp))
       simp only[Act.put,sA,sZ,sS]
       refine rg_one 11 kB ?_
       refine tk_new 11 (some 81) (.cells #[.int .i64 h.v] 3) (fun n=> .slice (some ⟨n,0,none⟩) 1 1) rfl rfl (by rfl) kF ?_
       intro gb xb egb hxb hzxb hC
       have hSb:Sr vJ w5 xb:=hSy.ext hxb
       refine⟨hSb,?_⟩
       simp only[Act.put,sA,sZ,sS]
       have hEb:Ext w5 xb:=((Ext.refl w5).drew).trans hxb
       have hbse:w.heap.size≤xb.heap.size:=Nat.le_trans hXz.size hEb.size
       refine rg_one 12 kB ?_
       refine tk_src 12 (some 82) rfl rfl (by rfl) (.tmp 75) (.tmp 81) 91 rfl w.heap.size 3 i0 (.int .i64 0) 1 8 Tryz.underlying91 ii iz0 iz1 iz2 rfl kD vJ lJ.length usJ rfl (rows_ext husJ hEb) (.slice (some ⟨gb,0,none⟩) 1 1) 1 [.int .i64 h.v] rfl (Src.block hC rfl) kE kC kA hbse ?_
       intro v3 xc hr3 hg3 ha3
       have hSc:Sr vJ w5 xc:=hSb.grown hg3
       refine⟨hSc,?_⟩
       simp only[Act.put,sA,sZ,sS]
       refine gT 13 83 (.pointer (some ⟨gd,J,none⟩)) hSc ?_
       simp only[Act.put,sA,sZ,sS]
       refine rg_t 14 none (.bool true) rfl hSc (fun w' hs=>by rfl) ?_
       simp only[Act.put,sA,sZ,sS]
       refine rg_done kB ?_
       obtain⟨v3a,v3c,rfl⟩:=own_form hr3
       have a4c:=hSc.cell lz0 z0
       have a4f:=hSc.free lz0 zf
       refine qlast_normal ?_
       refine tk_write 14 none (xc.setCell ⟨gd,J,none⟩ (.slice v3a (lJ.length+1) v3c)) (by rfl) rfl (by rfl) (exec_store rfl (store_slice _ s1Ints a4c a4f _ _ _)) ?_
       exact⟨gb,(.slice v3a (lJ.length+1) v3c),xb,xc,kH,rfl,hEb,hr3,hg3,ha3⟩
      rintro _ w9 ⟨gb,v3,xb,xc,rfl,hw9,hEb,hr3,hg3,ha3⟩
      simp only[Act.put,sA,sZ,sS]
      have HP9:Hid (F2 w9 (fun b=>p b∧b< w.heap.size) w.heap.size 91 3 1 (fun x=> [intD x]) (.slice (some ⟨gd,0,none⟩) vs2.length d4c) (vs2.set J v3) (L2.set J (lJ++ [h.v]))∧Own w9 (fun b=>p b∧b< w.heap.size) w.heap.size 157 3 (.slice o2a P2.length o2c) P2.length (P2.flatMap partC)∧(∀b,Mut (.slice (some ⟨gd,0,none⟩) vs2.length d4c) (vs2.set J v3) b→some b≠(Value.slice o2a P2.length o2c).ownBlock)∧Ext w w9):=by
       obtain⟨hO,hF,hA⟩:=HQ.out
       have hvm:vJ∈vs2:=List.mem_of_getElem? HVJ.out.1
       obtain⟨hF9,hM9⟩:=hF.push hEb hXz.size (fun b hb=>hb.2) J vJ lJ HVJ.out.1 HVJ.out.2 h.v HRJ.out (Reps.cons (Rep.int _ _ _ _) (Reps.nil _ _)) hr3 hg3 ha3 rfl
       have hfr:=hF.frame (w1:=xb) (w2:=xc) (v2:=v3) (i:=J) hvm hg3 rfl
       have hs9:xb.heap.size≤w9.heap.size:=by rw[hw9];simpa using hg3.size
       have hOb:=hO.ext hEb
       rw[←hw9]at hF9 hfr
       refine Lh ⟨hF9,hOb.frame _ hs9 hfr (fun b hb hm=>hA b hm hb) (fun b hb hm=>by have:=(hF.mut_lt hm).1;have:=hb.2;omega),fun b hb e=> ?_,?_⟩
       ·
        rcases hM9 b hb with hm | hm
        ·
         exact hA b hm e
        ·
         obtain⟨us,hro,_⟩:=hOb.rows
         have:=(own_lt hro e).2;omega
       ·
        rw[hw9]
        have hx8:Ext w xc:=Below.grown (hXz.trans hEb) hg3 (Below.size (hXz.trans hEb)) fun k hk=>(own_lt husJ hk.symm).1
        exact hx8.set hgd2 _
      have HN9:Hid (partsG false (l.drop (i+1)) (P2,L2.set J (lJ++ [h.v]))=R):=Lh (HNX.out lJ HVJ.out.2)
      have HL9:Hid (∀m∈L2.set J (lJ++ [h.v]),m.length≤i+1):=Lh fun m hm=>by
       rcases List.mem_or_eq_of_mem_set hm with hm | e
       ·
        have:=HLB.out m hm;omega
       ·
        rw[e];simp;exact hlJb
      have hP2b:P2.length=L2.length:=HPL.out
      clear HQ HRJ HVJ hr3 hg3 ha3 hEb husJ z0 zf z1 lz0 lz1 HNX hw9 HLB
      go_wp2_with fail
      go_roundw
      case rel=>exact⟨i+1,o2a,o2c,some ⟨gd,0,none⟩,d4c,(P2,L2.set J (lJ++ [h.v])),vs2.set J v3,by go_num,rfl,by rw[List.length_set],by omega,HP9.out.2.2.2,Lh ⟨HP9.out.2.1,by rw[List.length_set];exact HP9.out.1,by rw[List.length_set];exact HP9.out.2.2.1,by simp only[List.length_set];exact hP2b,hP2i,HL9.out,HN9.out⟩⟩
      case measure=>exact mZ
     ·
      obtain⟨J,rfl⟩:∃J:Nat,A=(J:Int):=⟨A.toNat,by omega⟩
      have hJg:J< g.1.length:=by have:=HAR.out.1;omega
      have hXz:=hXz0
      have hgv:vs.length=g.1.length:=by rw[HBQ.out.2.1.len,HBQ.out.2.2.2.1]
      have HNX:Hid (∀lJ,g.2[J]? =some lJ→partsG false (l.drop (i+1)) (g.1,g.2.set J (lJ++ [h.v]))=R):=Lh fun lJ hlJ=>by
       have e1:=HBQ.out.2.2.2.2.2.2
       rw[HSI.out]at e1
       unfold addP at e1
       rw[HAR.out.2,if_neg hneg,Int.toNat_natCast,modify_set _ _ _ _ hlJ]at e1
       exact e1
      have HLB:Hid (∀m∈g.2,m.length≤i):=Lh HBQ.out.2.2.2.2.2.1
      have HPL:Hid (g.1.length=g.2.length):=Lh HBQ.out.2.2.2.1
      have hP2i:g.1.length≤i+1:=by omega
      have hJ:J< vs.length:=by omega
      have HQ:Hid (Own wz (fun b=>p b∧b< w.heap.size) w.heap.size 157 3 (.slice oa g.1.length oc) g.1.length (g.1.flatMap partC)∧F2 wz (fun b=>p b∧b< w.heap.size) w.heap.size 91 3 1 (fun x=> [intD x]) (.slice da vs.length dc) vs g.2∧∀b,Mut (.slice da vs.length dc) vs b→some b≠(Value.slice oa g.1.length oc).ownBlock):=Lh ⟨HBQ.out.1,HBQ.out.2.1,HBQ.out.2.2.1⟩
      clear HI HB HBQ HAR HSI hneg b0 b1 b2 HXA hgv
      go_wp2_with fail
      have hJL:J< g.2.length:=by rw[←HQ.out.2.1.len];exact hJ
      obtain⟨gd,dcn,edv,hgd,hgd2⟩:=own_some HQ.out.2.1.d kA
      cases edv
      have z0':=HQ.out.2.1.d.cellAt J kA
      obtain⟨vJ,hvJ⟩:∃v,vs[J]? =some v:=⟨_,List.getElem?_eq_getElem hJ⟩
      obtain⟨lJ,hlJ⟩:∃v,g.2[J]? =some v:=⟨_,List.getElem?_eq_getElem hJL⟩
      have hlJb:lJ.length≤i:=HLB.out lJ (List.mem_of_getElem? hlJ)
      have z0:wz.cell? ⟨gd,J,none⟩=some vJ:=z0'.trans hvJ
      have zf:=HQ.out.2.1.d.frozenAt J
      obtain⟨usJ,husJ,hrepJ⟩:=(HQ.out.2.1.own J vJ lJ hvJ hlJ).rows
      have hJn:vJ.ownBlock=none∨vJ.ownBlock≠some gd:=HQ.out.2.1.out vJ (List.mem_of_getElem? hvJ)
      have lz0:gd< wz.heap.size∧some gd≠vJ.ownBlock:=⟨hgd,fun e=>by rcases hJn with h1 | h1;rw[h1]at e;cases e;exact h1 e.symm⟩
      have z1:=hXz.keep lgh d0
      have lz1:gh< wz.heap.size∧some gh≠vJ.ownBlock:=⟨Nat.lt_of_lt_of_le lgh hXz.size,fun e=>by have:=(own_lt husJ e).1;omega⟩
      have HRJ:=Lh hrepJ
      have HVJ:=Lh (And.intro hvJ hlJ)
      clear z0' hrepJ hvJ hlJ hJn
      refine region_merge (fun ac ac' w'=>∃(gb:Nat) (v3:Value) (xb:World) (xc:World),ac'=((((((((((((((ac.put (some 70) (.slice (some ⟨gd,0,none⟩) vs.length dc)).put (some 71) (.int .i64 J)).put (some 72) (.slice (some ⟨gd,0,none⟩) vs.length dc)).put (some 73) (.int .i64 J)).put (some 74) (.pointer (some ⟨gd,J,none⟩))).put (some 75) (vJ)).put (some 76) (.slice (some ⟨gh,oh,none⟩) l.length lc)).put (some 77) (.int .i64 i)).put (some 78) (.pointer (some ⟨gh,oh+i*6,none⟩))).put (some 79) (.pointer (some ⟨gh,oh+i*6,none⟩))).put (some 80) (.int .i64 h.v)).put (some 81) (.slice (some ⟨gb,0,none⟩) 1 1)).put (some 82) (v3)).put (some 83) (.pointer (some ⟨gd,J,none⟩)))∧w'=xc.setCell ⟨gd,J,none⟩ v3∧Ext wz xb∧World.ownsRow xc w.heap.size 3 1 v3 (lJ.length+1) (usJ++ [.int .i64 h.v])∧World.grownBy xb xc vJ.ownBlock∧(v3.ownBlock=vJ.ownBlock∨v3.ownBlock=some xb.heap.size)) ?_ ?_
      ·
       refine rg_aside (S := Sr vJ wz) 14 ⟨none, .store 91 (.tmp 83) (.tmp 82), 0, "ref.go:48", #[⟨13, .data⟩, ⟨12, .data⟩, ⟨12, .chain⟩, ⟨0, .phase⟩, ⟨1, .phase⟩, ⟨2, .phase⟩, ⟨3, .phase⟩, ⟨4, .phase⟩, ⟨5, .phase⟩, ⟨6, .phase⟩, ⟨7, .phase⟩, ⟨8, .phase⟩, ⟨9, .phase⟩, ⟨10, .phase⟩, ⟨11, .phase⟩, ⟨12, .phase⟩], none⟩ kB kD rfl rfl kB kB (Sr.begin _ _) ?_
       have hSy:Sr vJ wz (World.drew wz):=(Sr.begin _ _)
       simp only[List.setIfInBounds_toArray,List.set_cons_zero,List.set_cons_succ]
       refine gT 0 70 (.slice (some ⟨gd,0,none⟩) vs.length dc) hSy ?_
       simp only[Act.put,sA,sZ,sS]
       refine gT 1 71 (.int .i64 J) hSy ?_
       simp only[Act.put,sA,sZ,sS]
       refine gT 2 72 (.slice (some ⟨gd,0,none⟩) vs.length dc) hSy ?_
       simp only[Act.put,sA,sZ,sS]
       refine gT 3 73 (.int .i64 J) hSy ?_
       simp only[Act.put,sA,sZ,sS]
       refine gT 4 74 (.pointer (some ⟨gd,J,none⟩)) hSy ?_
       simp only[Act.put,sA,sZ,sS]
       refine gT 5 75 (vJ) hSy ?_ (hv:=fun w' hs=>by(have h0:=hs.cell lz0 z0;go_simp))
       simp only[Act.put,sA,sZ,sS]
       refine gT 6 76 (.slice (some ⟨gh,oh,none⟩) l.length lc) hSy ?_
       simp only[Act.put,sA,sZ,sS]
       refine gT 7 77 (.int .i64 i) hSy ?_
       simp only[Act.put,sA,sZ,sS]
       refine gT 8 78 (.pointer (some ⟨gh,oh+i*6,none⟩)) hSy ?_
       simp only[Act.put,sA,sZ,sS]
       refine gT 9 79 (.pointer (some ⟨gh,oh+i*6,none⟩)) hSy ?_
       simp only[Act.put,sA,sZ,sS]
       refine gT 10 80 (.int .i64 h.v) hSy ?_ (hv:=fun w' hs=>by(have h0:=hs.cell lz1 z1;go_simp))
       simp only[Act.put,sA,sZ,sS]
       refine rg_one 11 kB ?_
       refine tk_new 11 (some 81) (.cells #[.int .i64 h.v] 3) (fun n=> .slice (some ⟨n,0,none⟩) 1 1) rfl rfl (by rfl) kF ?_
       intro gb xb egb hxb hzxb hC
       have hSb:Sr vJ wz xb:=hSy.ext hxb
       refine⟨hSb,?_⟩
       simp only[Act.put,sA,sZ,sS]
       have hEb:Ext wz xb:=((Ext.refl wz).drew).trans hxb
       have hbse:w.heap.size≤xb.heap.size:=Nat.le_trans hXz.size hEb.size
       refine rg_one 12 kB ?_
       refine tk_src 12 (some 82) rfl rfl (by rfl) (.tmp 75) (.tmp 81) 91 rfl w.heap.size 3 i0 (.int .i64 0) 1 8 Tryz.underlying91 ii iz0 iz1 iz2 rfl kD vJ lJ.length usJ rfl (rows_ext husJ hEb) (.slice (some ⟨gb,0,none⟩) 1 1) 1 [.int .i64 h.v] rfl (Src.block hC rfl) kE kC kA hbse ?_
       intro v3 xc hr3 hg3 ha3
       have hSc:Sr vJ wz xc:=hSb.grown hg3
       refine⟨hSc,?_⟩
       simp only[Act.put,sA,sZ,sS]
       refine gT 13 83 (.pointer (some ⟨gd,J,none⟩)) hSc ?_
       simp only[Act.put,sA,sZ,sS]
       refine rg_t 14 none (.bool true) rfl hSc (fun w' hs=>by rfl) ?_
       simp only[Act.put,sA,sZ,sS]
       refine rg_done kB ?_
       obtain⟨v3a,v3c,rfl⟩:=own_form hr3
       have a4c:=hSc.cell lz0 z0
       have a4f:=hSc.free lz0 zf
       refine qlast_normal ?_
       refine tk_write 14 none (xc.setCell ⟨gd,J,none⟩ (.slice v3a (lJ.length+1) v3c)) (by rfl) rfl (by rfl) (exec_store rfl (store_slice _ s1Ints a4c a4f _ _ _)) ?_
       exact⟨gb,(.slice v3a (lJ.length+1) v3c),xb,xc,kH,rfl,hEb,hr3,hg3,ha3⟩
      rintro _ w9 ⟨gb,v3,xb,xc,rfl,hw9,hEb,hr3,hg3,ha3⟩
      simp only[Act.put,sA,sZ,sS]
      have HP9:Hid (F2 w9 (fun b=>p b∧b< w.heap.size) w.heap.size 91 3 1 (fun x=> [intD x]) (.slice (some ⟨gd,0,none⟩) vs.length dc) (vs.set J v3) (g.2.set J (lJ++ [h.v]))∧Own w9 (fun b=>p b∧b< w.heap.size) w.heap.size 157 3 (.slice oa g.1.length oc) g.1.length (g.1.flatMap partC)∧(∀b,Mut (.slice (some ⟨gd,0,none⟩) vs.length dc) (vs.set J v3) b→some b≠(Value.slice oa g.1.length oc).ownBlock)∧Ext w w9):=by
       obtain⟨hO,hF,hA⟩:=HQ.out
       have hvm:vJ∈vs:=List.mem_of_getElem? HVJ.out.1
       obtain⟨hF9,hM9⟩:=hF.push hEb hXz.size (fun b hb=>hb.2) J vJ lJ HVJ.out.1 HVJ.out.2 h.v HRJ.out (Reps.cons (Rep.int _ _ _ _) (Reps.nil _ _)) hr3 hg3 ha3 rfl
       have hfr:=hF.frame (w1:=xb) (w2:=xc) (v2:=v3) (i:=J) hvm hg3 rfl
       have hs9:xb.heap.size≤w9.heap.size:=by rw[hw9];simpa using hg3.size
       have hOb:=hO.ext hEb
       rw[←hw9]at hF9 hfr
       refine Lh ⟨hF9,hOb.frame _ hs9 hfr (fun b hb hm=>hA b hm hb) (fun b hb hm=>by have:=(hF.mut_lt hm).1;have:=hb.2;omega),fun b hb e=> ?_,?_⟩
       ·
        rcases hM9 b hb with hm | hm
        ·
         exact hA b hm e
        ·
         obtain⟨us,hro,_⟩:=hOb.rows
         have:=(own_lt hro e).2;omega
       ·
        rw[hw9]
        have hx8:Ext w xc:=Below.grown (hXz.trans hEb) hg3 (Below.size (hXz.trans hEb)) fun k hk=>(own_lt husJ hk.symm).1
        exact hx8.set hgd2 _
      have HN9:Hid (partsG false (l.drop (i+1)) (g.1,g.2.set J (lJ++ [h.v]))=R):=Lh (HNX.out lJ HVJ.out.2)
      have HL9:Hid (∀m∈g.2.set J (lJ++ [h.v]),m.length≤i+1):=Lh fun m hm=>by
       rcases List.mem_or_eq_of_mem_set hm with hm | e
       ·
        have:=HLB.out m hm;omega
       ·
        rw[e];simp;exact hlJb
      have hP2b:g.1.length=g.2.length:=HPL.out
      clear HQ HRJ HVJ hr3 hg3 ha3 hEb husJ z0 zf z1 lz0 lz1 HNX hw9 HLB
      go_wp2_with fail
      go_roundw
      case rel=>exact⟨i+1,oa,oc,some ⟨gd,0,none⟩,dc,(g.1,g.2.set J (lJ++ [h.v])),vs.set J v3,by go_num,rfl,by rw[List.length_set],by omega,HP9.out.2.2.2,Lh ⟨HP9.out.2.1,by rw[List.length_set];exact HP9.out.1,by rw[List.length_set];exact HP9.out.2.2.1,by simp only[List.length_set];exact hP2b,hP2i,HL9.out,HN9.out⟩⟩
      case measure=>exact mZ
  ·
   have hlI:¬(i:Int)< (l.length:Int):=by omega
   have hgR:g=R:=by have:=HH.out.2.2.2.2.2.2;rw[List.drop_of_length_le kA,partsG]at this;exact this
   subst hgR
   have hgl:g.1.length≤1048576:=by have:=HH.out.2.2.2.2.1;omega
   have HV0:Hid (Own wo (fun b=>(p b∧b< w.heap.size)∨w.heap.size≤b) w.heap.size 157 3 (.slice oa g.1.length oc) g.1.length ((setV (g.1.take 0) (g.2.take 0)++g.1.drop 0).flatMap partC)∧F2 wo (fun b=>p b∧b< w.heap.size) w.heap.size 91 3 1 (fun x=> [intD x]) (.slice da vs.length dc) vs g.2∧∀b,Mut (.slice da vs.length dc) vs b→some b≠(Value.slice oa g.1.length oc).ownBlock):=Lh ⟨HH.out.1.okay fun b hb=> .inl hb,HH.out.2.1,HH.out.2.2.1⟩
   have HGV:Hid (g.1.length=vs.length∧g.1.length=g.2.length):=Lh ⟨by rw[HH.out.2.1.len,HH.out.2.2.2.1],HH.out.2.2.2.1⟩
   clear HH HR
   go_wp2_with fail
   go_loopw [11] (fun t wq=>∃k:Nat,t= .int .i64 k∧k≤g.1.length∧(k=0∨1< g.1.length)∧Ext w wq∧Hid (Own wq (fun b=>(p b∧b< w.heap.size)∨w.heap.size≤b) w.heap.size 157 3 (.slice oa g.1.length oc) g.1.length ((setV (g.1.take k) (g.2.take k)++g.1.drop k).flatMap partC)∧F2 wq (fun b=>p b∧b< w.heap.size) w.heap.size 91 3 1 (fun x=> [intD x]) (.slice da vs.length dc) vs g.2∧∀b,Mut (.slice da vs.length dc) vs b→some b≠(Value.slice oa g.1.length oc).ownBlock)) (fun t _=>downV g.1.length t)
   case atStart=>exact⟨0,rfl,Nat.zero_le _,.inl rfl,hX,HV0⟩
   case round=>
    clear HV0
    obtain⟨k,rfl,hk,hk01,hQ,HV⟩:=hrel
    obtain⟨wz,hwz⟩:∃wz,wz=wr:=⟨_,rfl⟩
    subst hwz
    have hk0:=nZ0 k
    have hkm:k≤1048576:=by omega
    by_cases h1:1< g.1.length
    ·
     have h1I:(1:Int)< (g.1.length:Int):=by omega
     by_cases hkl:k< g.1.length
     ·
      have hkI:(k:Int)< (g.1.length:Int):=by omega
      have hkv:k< vs.length:=by have:=HGV.out;omega
      have hkg:k< g.2.length:=by have:=HGV.out;omega
      have hkvI:(k:Int)< (vs.length:Int):=by omega
      obtain⟨gd,dcn,edv,hgd,hgd2⟩:=own_some HV.out.2.1.d kA
      cases edv
      obtain⟨usO,hrowO,hrepO⟩:=HV.out.1.rows
      obtain⟨go,ocn,eov,hgo,hgo2⟩:=own_some hrowO kA
      cases eov
      have hSV:=setV_step k g.1 g.2 hkl hkg HGV.out.2
      obtain⟨vk,hvk⟩:∃v,vs[k]? =some v:=⟨_,List.getElem?_eq_getElem hkv⟩
      have z0:wz.cell? ⟨gd,k,none⟩=some vk:=(HV.out.2.1.d.cellAt k kA).trans hvk
      have HC:=Lh (of_any _ g.2[k] vk wz (HV.out.2.1.own k vk g.2[k] hvk (List.getElem?_eq_getElem hkg)).rep)
      have hul:usO.length=g.1.length*3:=hrowO.1
      obtain⟨u0,hu0⟩:∃u,usO[k*3]? =some u:=⟨_,List.getElem?_eq_getElem kA⟩
      have y0:wz.cell? ⟨go,k*3,none⟩=some u0:=(hrowO.cellAt (k*3) kA).trans hu0
      have yf:=hrowO.frozenAt (k*3)
      have HW:=Lh (And.intro hrowO (And.intro hrepO (And.intro HV.out.2 hSV)))
      clear hvk hrowO hrepO hu0 hul hSV HV
      go_wp2_with fail
      refine HC.out.mono ?_
      rintro e w2 ⟨⟨sv,rfl,hsv⟩,hB2⟩
      have yc:=hB2.keep hgo y0
      have yfr:=hB2.free hgo yf
      obtain⟨sva,svc,rfl,_,_⟩:=hsv.count z_span kA
      have HS2:=Lh (And.intro hsv hB2)
      obtain⟨SP,hSP⟩:∃S,(spansOf (flOf g.2[k])).length=S:=⟨_,rfl⟩
      rw[hSP]
      clear HC hsv hB2 y0 yf
      go_wp2_with fail
      go_roundw
      case rel=>
       obtain⟨hsv,hB2⟩:=HS2.out
       rw[hSP]at hsv
       obtain⟨hrowO,hrepO,⟨hF,hA⟩,hSV⟩:=HW.out
       have hrow2:=rows_ext hrowO hB2
       obtain⟨hst,hgs⟩:=hrow2.stored (k*3) (.slice sva SP svc)
       have hX9:Ext w (w2.setCell ⟨go,k*3,none⟩ (.slice sva SP svc)):=(hQ.trans hB2).set hgo2 _
       have hgz:go< wz.heap.size:=hgo
       refine⟨k+1,by go_num,by omega,.inr h1,hX9,Lh ⟨⟨_,hst,?_⟩,(hF.ext hB2).kept hgs (fun b e=>by cases e;exact⟨fun hm=>hA _ hm rfl,fun hb=>by have:=hb.2;omega⟩),hA⟩⟩
       rw[←hSV]
       refine Reps.set ?_ (k*3) ?_
       ·
        exact((hrepO.ext hB2).kept fun b hb _=>Below.heap_setCell _ _ _ _ (by intro e;exact hb.2.1 (congrArg some e))).ok fun b hb=>⟨hb.1,hb.2.1,by have:=hb.2.2;have:=hB2.size;simp;omega⟩
       ·
        refine((hsv.lt.kept fun b hb _=>Below.heap_setCell _ _ _ _ (by have h6:wz.heap.size≤b:=hb.1;simp only;omega)).ok fun b hb=>⟨.inr (by have:=hQ.size;have h6:wz.heap.size≤b:=hb.1;omega),fun e=>by have h6:wz.heap.size≤b:=hb.1;have h7:b=go:=Option.some.inj e;omega,by have:=hb.2;simp;omega⟩)
      case measure=>exact mZ
     ·
      have hkI:¬(k:Int)< (g.1.length:Int):=by omega
      have HN:Hid (setV (g.1.take k) (g.2.take k)++g.1.drop k=RR):=Lh kY
      have HRP:=Lh HV.out.1.rep
      clear HV
      go_wp2_with fail
      go_ret
      exact⟨⟨_,rfl,by rw[←HN.out];exact HRP.out.ok (q:=fun b=>p b∨w.heap.size≤b) fun b hb=>(hb.elim (fun h=>h.elim (fun h=> .inl h.1) .inr) .inr)⟩,hQ⟩
    ·
     have h1I:¬(1:Int)< (g.1.length:Int):=by omega
     have hk00:k=0:=by omega
     subst hk00
     have HN:Hid (setV (g.1.take 0) (g.2.take 0)++g.1.drop 0=RR):=Lh (by rw[←HRR.out,if_neg h1];rfl)
     have HRP:=Lh HV.out.1.rep
     clear HV
     by_cases hz:(0:Int)< (g.1.length:Int)
     all_goals go_wp2_with fail
     all_goals go_ret
     all_goals exact⟨⟨_,rfl,by rw[←HN.out];exact HRP.out.ok (q:=fun b=>p b∨w.heap.size≤b) fun b hb=>(hb.elim (fun h=>h.elim (fun h=> .inl h.1) .inr) .inr)⟩,hQ⟩
theorem parts_any (whole:Bool) (l:List Held) (p:Nat→Prop) (v:Value) (w:World) (hll:l.length≤1048576) (hvl:Rep w p v (heldsD l)):
  Calls Tryz.prog 65 #[v,.bool whole] w fun e w'=>Ret (fun b=>p b∨w.heap.size≤b) (partsD (partsP whole l)) e w'∧Ext w w':=by
 cases whole with
 | true=>exact partstrue_any l p v w hll hvl
 | false=>exact partsfalse_any l p v w hll hvl
theorem infoANode:(Tryz.prog.info? 32).map (fun i=>(i.zero,i.size,i.bytes))=some (some (.agg #[.string ⟨#[]⟩,.slice none 0 0,.slice none 0 0,.slice none 0 0,.slice none 0 0]),5,112):=by kernel_rfl
theorem infoHeld:(Tryz.prog.info? 98).map (fun i=>(i.zero,i.size,i.bytes))=some (some (.agg #[.int .i64 0,.int .i64 0,.string ⟨#[]⟩,.string ⟨#[]⟩,.slice none 0 0,.slice none 0 0]),6,96):=by kernel_rfl
theorem infoHelds:(Tryz.prog.info? 96).map (fun i=>(i.zero,i.size,i.bytes))=some (some (.slice none 0 0),1,24):=by kernel_rfl
theorem s1Helds:∀W,(sizeOf 96).run Tryz.prog W= .ok 1 W:=fun W=>by go_simp
theorem s1Anodes:∀W,(sizeOf 30).run Tryz.prog W= .ok 1 W:=fun W=>by go_simp
theorem szHelds:∀W,(sizeOf (Tryz.prog.elem 135)).run Tryz.prog W= .ok 1 W:=fun W=>by rw[show Tryz.prog.elem 135=96 by kernel_rfl];go_simp
theorem unHelds:Tryz.prog.underlying 135=some (.slice (Tryz.prog.elem 135)):=by kernel_rfl
def hszL:List Held→Nat
 | []=>0
 | h::r=>nsz h.n+hszL r
theorem hszL_app:∀a b:List Held,hszL (a++b)=hszL a+hszL b
 | [],b=>by simp[hszL]
 | h::a,b=>by rw[List.cons_append,hszL,hszL,hszL_app a b];omega
theorem hszL_drop (hs:List Held) (i:Nat) (h:i< hs.length):hszL (hs.drop i)=nsz hs[i].n+hszL (hs.drop (i+1)):=by rw[drop_one hs i h,hszL]
theorem kids_len:∀ks:List Node,ks.length≤nszL ks
 | []=>Nat.zero_le _
 | k::r=>by rw[nszL,List.length_cons];have:=kids_len r;have:=nsz_pos k;omega
theorem kids_lt (n:Node):n.kids.length< nsz n:=by cases n with | mk k nm t la ks=>rw[nsz];have:=kids_len ks;simp only[Node.kids];omega
theorem hszL_selK (t:Step) (v:Int):∀(ss:List Step) (ks:List Node),hszL (selK t v ss ks)≤nszL ks
 | [],ks=>by cases ks<;> simp[selK,hszL]
 | _::_,[]=>by simp[selK,hszL]
 | s::ss,k::ks=>by
  rw[selK,hszL_app,nszL]
  have:=hszL_selK t v ss ks
  split
  ·
   simp only[hszL];omega
  ·
   simp only[hszL];omega
theorem hszL_selH (l:List Rule) (path:List Bytes) (t:Step):∀hs:List Held,hszL (selH l path t hs)≤hszL hs
 | []=>Nat.le_refl _
 | h::r=>by
  rw[selH,hszL_app,hszL]
  have h1:=hszL_selK t h.v (stepsS l path h.n.kids) h.n.kids
  have h2:=hszL_selH l path t r
  have h3:nszL h.n.kids≤nsz h.n:=by cases h.n;rw[nsz];simp only[Node.kids];omega
  omega
theorem selH_len (l:List Rule) (path:List Bytes) (t:Step):∀hs:List Held,(∀h∈hs,Rising (stepsS l path h.n.kids))→(selH l path t hs).length≤hs.length
 | [],_=>Nat.le_refl _
 | h::r,hr=>by
  rw[selH,List.length_append,List.length_cons,selK_look _ _ _ _ (hr h List.mem_cons_self)]
  have:=selH_len l path t r fun h hm=>hr h (List.mem_cons_of_mem _ hm)
  cases (lookK t (stepsS l path h.n.kids) h.n.kids)<;> simp<;> omega
theorem gatherK_nil (v:Int) (ks:List Node) (g:List Step×List (List Held)):gatherK v [] ks g=g:=by cases ks<;> rfl
theorem insAt_at {α:Type} (l:List α) (k:Nat) (x:α) (h:k≤l.length):(insAt l k x)[k]? =some x:=by
 unfold insAt
 rw[List.getElem?_append_right (by rw[List.length_take];omega),List.length_take,Nat.min_eq_left h,Nat.sub_self];rfl
theorem insAt_set {α:Type} (l:List α) (k:Nat) (x y:α) (h:k≤l.length):(insAt l k x).set k y=insAt l k y:=by
 unfold insAt
 rw[List.set_append_right _ _ (by rw[List.length_take];omega),List.length_take,Nat.min_eq_left h,Nat.sub_self];rfl
theorem gather_cons (l:List Rule) (path:List Bytes) (hs:List Held) (i:Nat) (h:i< hs.length) (g:List Step×List (List Held)):gather l path (hs.drop i) g=gather l path (hs.drop (i+1)) (gatherK hs[i].v (stepsS l path hs[i].n.kids) hs[i].n.kids g):=by rw[drop_one hs i h,gather]
def RetA (q:Nat→Prop) (n:ANode) (e:Ending) (w:World):Prop:=
 ∃(k v pa c:Option Addr) (kc vc pc cc:Nat),e= .returned (.agg #[.string (bs n.name),.slice k n.key.length kc,.slice v n.vers.length vc,.slice pa n.parts.length pc,.slice c n.kids.length cc])∧Rep w q (.slice k n.key.length kc) (strsD n.key)∧Rep w q (.slice v n.vers.length vc) (spansD n.vers)∧Rep w q (.slice pa n.parts.length pc) (partsD n.parts)∧Rep w q (.slice c n.kids.length cc) (anodesD n.kids)
theorem A5.set {W:World} {b:Nat} {n m:ANode} {xk xv xp xc:Value} (h:A5 W b n xk xv xp xc) (hn:m.name=n.name):(∀u,A5 (W.setCell ⟨b,2,none⟩ u) b m xk u xp xc)∧(∀u,A5 (W.setCell ⟨b,3,none⟩ u) b m xk xv u xc)∧(∀u,A5 (W.setCell ⟨b,4,none⟩ u) b m xk xv xp u):=by
 have hlt:=h.lt
 have c0:=h.c0;have c1:=h.c1;have c2:=h.c2;have c3:=h.c3;have c4:=h.c4
 have f0:=h.f0;have f1:=h.f1;have f2:=h.f2;have f3:=h.f3;have f4:=h.f4
 refine⟨fun u=> ?_,fun u=> ?_,fun u=> ?_⟩
 all_goals exact⟨by simpa using hlt,by rw[hn];simp[go_sem, *],by simp[go_sem, *],by simp[go_sem, *],by simp[go_sem, *],by simp[go_sem, *],by simp[go_sem, *],by simp[go_sem, *],by simp[go_sem, *],by simp[go_sem, *],by simp[go_sem, *]⟩
theorem res_one {fn:Func} {t:Tmp} {T:TypeId} (h:fn.results= #[.cell t T]) (tmps:Array Value) (P:Program) (w:World) (ad:Addr) {v:Value} (ha:tmps.getD t undef= .pointer (some ad)) (hl:(loadVar T ad).run P w= .ok v w):
  (results fn tmps).run P w= .ok v w:=by
 have ha':tmps[t]?.getD undef= .pointer (some ad):=by simpa using ha
 simp[results,h,ha',asAddr,hl]
def outA (s:Step):ANode:= .mk s.n [] [] [] []
def GS (p:Nat→Prop) (w w3 wr:World) (sv dv:Value) (vs:List Value) (g:List Step×List (List Held)) (c:Nat):Prop:=
 Rep wr (fun b=>w3.heap.size≤b∧¬Mut dv vs b) sv (stepsD g.1)∧F2 wr (fun b=>p b∧b< w.heap.size) w3.heap.size 96 98 6 heldC dv vs g.2∧g.1.length=g.2.length∧g.1.length≤c∧∀m∈g.2,m.length≤c
theorem GS.ext {p:Nat→Prop} {w w3 wr W:World} {sv dv:Value} {vs:List Value} {g:List Step×List (List Held)} {c:Nat} (h:GS p w w3 wr sv dv vs g c) (hB:Ext wr W):GS p w w3 W sv dv vs g c:=⟨h.1.ext hB,h.2.1.ext hB,h.2.2⟩
def NodeOK (l:List Rule) (N:Nat):Prop:=∀(path:List Bytes) (s:Step) (hs:List Held) (above:List Span) (p:Nat→Prop) (vl vp vk vh va:Value) (w:World),hs≠ []→
  (∀h∈hs,wfN l h.n path∧nsz h.n≤N∧cntN h.n≤1048576∧path.length+nsz h.n≤1048577)→hszL hs≤16777216→hs.length≤1048576→0< path.length→s.n.length≤9223372036854775807→
  Rep w p vl (rulesD l)→Rep w p vp (strsD path)→Rep w p vk (strsD s.key)→Rep w p vh (heldsD hs)→Rep w p va (spansD above)→
  Calls Tryz.prog 40 #[vl,vp,.agg #[.string (bs s.n),vk],vh,va] w fun e w'=>RetA (fun b=>p b∨w.heap.size≤b) (nodeP l N path s hs above) e w'∧Ext w w'
end Go.Proofs.YtngmgjodcnknoaaGreatDoor
