/-
 ref29:Paths. Helper lemmas;no statement of the seat is proved here.
-/
import Derived.Test.YtngmgjodcnknoaaGreatDoorU30
namespace Go.Proofs.YtngmgjodcnknoaaGreatDoor
open Go.RowKit
set_option maxHeartbeats 32000000
set_option maxRecDepth 100000
set_option linter.unusedVariables false
set_option linter.unusedSimpArgs false
theorem szStrI:∀W,(sizeOf (Tryz.prog.elem 27)).run Tryz.prog W= .ok 1 W:=fun W=>by rw[show Tryz.prog.elem 27=9 by kernel_rfl];go_simp
theorem unStrI:Tryz.prog.underlying 27=some (.slice (Tryz.prog.elem 27)):=by kernel_rfl
theorem psT_len:∀(T:List (List QN)) (i:Nat),(∀t∈T,t.length≤1000)→(psT T i).length≤1000*T.length
 | [],_,_=>Nat.le_refl _
 | t::r,i,h=>by
  have h1:=psT_len r (i+1) fun t ht=>h t (List.mem_cons_of_mem _ ht)
  have h2:=h t List.mem_cons_self
  rw[psT,List.length_append,List.length_map,List.length_cons]
  omega
theorem insP_lt:∀(L:List Bytes) (p:Bytes) (k:Nat),k≤L.length→(∀(j:Nat) (h:j< L.length),j< k→lessB L[j] p=true)→(∀h:k< L.length,lessB L[k] p=false∧L[k]≠p)→insP L p=L.take k++p::L.drop k
 | [],p,k,h,_,_=>by
  obtain rfl:k=0:=by simpa using h
  rfl
 | a::r,p,0,_,_,h=>by
  obtain⟨h1,h2⟩:=h kI
  unfold insP
  rw[if_neg (by rw[show lessB a p=false from h1];decide),if_neg (show¬a=p from h2)];rfl
 | a::r,p,k+1,hk,hl,h=>by
  have h0:=hl 0 kI kA
  unfold insP
  rw[if_pos (by exact h0),insP_lt r p k (by simpa using hk) (fun j hj hjk=>hl (j+1) (by simpa using hj) kA) (fun hj=>h (by simpa using hj))]
  rfl
theorem insP_eq:∀(L:List Bytes) (p:Bytes) (k:Nat) (hk:k< L.length),(∀(j:Nat) (h:j< L.length),j< k→lessB L[j] p=true)→L[k]=p→lessB L[k] p=false→insP L p=L
 | a::r,p,0,_,_,e,h=>by
  unfold insP
  rw[if_neg (by rw[show lessB a p=false from h];decide),if_pos (by exact e)]
 | a::r,p,k+1,hk,hl,e,h=>by
  have h0:=hl 0 kI kA
  unfold insP
  rw[if_pos (by exact h0),insP_eq r p k (by simpa using hk) (fun j hj hjk=>hl (j+1) (by simpa using hj) kA) (by simpa using e) kJ]
theorem rpaths_any (T:List (List QN)) (hT:T.length≤1000) (hTl:∀t∈T,t.length≤1000) (hok:∀t∈T,∀q∈t,ok4 (k4 q)) (p:Nat→Prop) (vt:Value) (w:World) (hvt:Rep w p vt (tabsD T)):
  Calls Tryz.prog 9 #[vt] w fun e w'=>(∃rv,e= .returned (.tuple #[rv,.int .i64 (psT T 0).length])∧w'.ownsRow w.heap.size 9 1 rv (pathsL (psT T 0)).length ((pathsL (psT T 0)).map fun x=> .string (bs x)))∧Ext w w':=by
 obtain⟨ta,tc,rfl,_,_⟩:=hvt.count z_tab kA
 obtain⟨j0,ji,jz0,jz1,jz2⟩:=info_parts infoString
 have hNb:=psT_len T 0 hTl
 obtain⟨R,hR⟩:∃R,pathsL (psT T 0)=R:=⟨_,rfl⟩
 obtain⟨N,hN⟩:∃N,(psT T 0).length=N:=⟨_,rfl⟩
 have H0:Hid ((psT (T.drop 0) 0).foldl (fun L x=>insP L (rowP x)) []=R∧0+(psT (T.drop 0) 0).length=N):=Lh (by rw[List.drop_zero,Nat.zero_add];exact⟨hR,hN⟩)
 rw[hR,hN]
 rw[hN]at hNb
 have hNb:N≤1000000:=by omega
 have HNB:=Lh hNb
 have HV:=Lh (And.intro hvt (And.intro hTl hok))
 clear hR hN hvt hTl hok hNb
 go_enter Tryz.func9,Tryz.ntmps9
 go_wp2_with fail
 go_loopw [4,5,6] (fun o c t wr=>∃(v cnt:Nat) (L:List Bytes),t= .int .i64 v∧v≤T.length∧c= .int .i64 cnt∧L.length≤v*1000∧Hid (wr.ownsRow w.heap.size 9 1 o L.length (L.map fun x=>Value.string (bs x))∧(psT (T.drop v) v).foldl (fun L x=>insP L (rowP x)) L=R∧cnt+(psT (T.drop v) v).length=N∧Ext w wr∧∀x∈L,x.length≤1000000000000)) (fun _ _ t _=>downV T.length t)
 case atStart=>exact⟨0,0,[],rfl,Nat.zero_le _,rfl,Nat.zero_le _,Lh ⟨World.ownsRow_nil _ _ _ _,H0.out.1,H0.out.2,Ext.refl _,fun x hx=>by cases hx⟩⟩
 case round=>
  clear H0
  obtain⟨v,cnt0,L0,rfl,hv,rfl,hL0,HI⟩:=hrel
  have hv0:=nZ0 v
  obtain⟨wo,hwo⟩:∃wo,wo=wr:=⟨_,rfl⟩
  subst hwo
  obtain⟨ob,od,rfl⟩:=own_slice HI.out.1
  by_cases hlt:v< T.length
  ·
   have hlI:(v:Int)< (T.length:Int):=by omega
   obtain⟨gt,ot,ut,hgt,lgt,ct,hut⟩:=tab_at (HV.out.1) v hlt
   subst hgt
   have hq:=HV.out.2.2 _ (List.getElem_mem hlt)
   have hml:=HV.out.2.1 _ (List.getElem_mem hlt)
   have hdr:psT (T.drop v) v=rowsI T[v] v++psT (T.drop (v+1)) (v+1):=by rw[drop_one T v hlt];rfl
   obtain⟨M,hM⟩:∃M,T[v]=M:=⟨_,rfl⟩
   rw[hM]at hut hq hml hdr
   obtain⟨ma,mc,rfl,_,_⟩:=hut.count z_qn kA
   have hHI:=HI.out
   rw[hdr]at hHI
   have H1:Hid (wo.ownsRow w.heap.size 9 1 (.slice ob L0.length od) L0.length (L0.map fun x=>Value.string (bs x))∧(rowsI (M.drop 0) v++psT (T.drop (v+1)) (v+1)).foldl (fun L x=>insP L (rowP x)) L0=R∧cnt0+(rowsI (M.drop 0) v++psT (T.drop (v+1)) (v+1)).length=N∧Ext w wo∧∀x∈L0,x.length≤1000000000000):=Lh hHI
   have HM:=Lh (And.intro hut (And.intro hq (And.intro ct lgt)))
   clear hM hdr hq hut HI hHI ct
   go_wp2_with fail
   go_loopw [4,5,7] (fun o c t wr=>∃(i cnt:Nat) (L:List Bytes),t= .int .i64 i∧i≤M.length∧c= .int .i64 cnt∧L.length≤v*1000+i∧Hid (wr.ownsRow w.heap.size 9 1 o L.length (L.map fun x=>Value.string (bs x))∧(rowsI (M.drop i) v++psT (T.drop (v+1)) (v+1)).foldl (fun L x=>insP L (rowP x)) L=R∧cnt+(rowsI (M.drop i) v++psT (T.drop (v+1)) (v+1)).length=N∧Ext w wr∧∀x∈L,x.length≤1000000000000)) (fun _ _ t _=>downV M.length t)
   case atStart=>exact⟨0,cnt0,L0,rfl,Nat.zero_le _,rfl,by omega,H1⟩
   case round=>
    clear H1 hL0
    obtain⟨i,cnt,L,rfl,hi,rfl,hL,HJ⟩:=hrel
    have hi0:=nZ0 i
    obtain⟨wq,hwq⟩:∃wq,wq=wr:=⟨_,rfl⟩
    subst hwq
    obtain⟨oa,oc,rfl⟩:=own_slice HJ.out.1
    have ct':=HJ.out.2.2.2.1.keep HM.out.2.2.2 HM.out.2.2.1
    by_cases hit:i< M.length
    ·
     have hiI:(i:Int)< (M.length:Int):=by omega
     obtain⟨gm,om,hgm,lgm,d0,d1,d2,d3,d4,d5⟩:=qnx_at (HM.out.1.ext HJ.out.2.2.2.1) i hit
     subst hgm
     have hok1:=HM.out.2.1 _ (List.getElem_mem hit)
     have hst:rowsI (M.drop i) v++psT (T.drop (v+1)) (v+1)=(((v:Int)+1,k4 M[i]):IR)::(rowsI (M.drop (i+1)) v++psT (T.drop (v+1)) (v+1)):=by rw[drop_one M i hit];rfl
     have hpl:M[i].path.length≤1000000000000:=hok1.2.2
     have hJ:=HJ.out
     rw[hst,List.foldl_cons,List.length_cons,show rowP ((((v:Int)+1,k4 M[i]):IR))=M[i].path from rfl]at hJ
     obtain⟨p,hp⟩:∃p,M[i].path=p:=⟨_,rfl⟩
     rw[hp]at d5 hpl hJ
     have HNX:Hid ((rowsI (M.drop (i+1)) v++psT (T.drop (v+1)) (v+1)).foldl (fun L x=>insP L (rowP x)) (insP L p)=R∧cnt+1+(rowsI (M.drop (i+1)) v++psT (T.drop (v+1)) (v+1)).length=N):=Lh ⟨hJ.2.1,by have:=hJ.2.2.1;omega⟩
     have HLO:=Lh hJ.2.2.2.2
     have HOJ:=Lh (And.intro hJ.1 hJ.2.2.2.1)
     have hcb:(cnt:Int)≤100000000:=by
      have:=HNX.out.2
      have:=HNB.out
      omega
     have hw1:IntKind.i64.wrap ((cnt:Int)+1)=(cnt:Int)+1:=IntWalk.i64_in _ kA
     clear hp hok1 hst hJ HJ d0 d1 d2 d3 d4
     go_wp2_with fail
     clear d5 ct'
     go_loopw [9] (fun t wr=>∃k:Nat,t= .int .i64 k∧k≤L.length∧Hid (∀(j:Nat) (h:j< L.length),j< k→lessB L[j] p=true)∧Hid (Ext wq wr)) (fun t _=>downV L.length t)
     case atStart=>exact⟨0,rfl,Nat.zero_le _,Lh fun j _ h=>absurd h (Nat.not_lt_zero _),Lh (Ext.refl _)⟩
     case round=>
      obtain⟨k,rfl,hk,HK,HX⟩:=hrel
      have hk0:=nZ0 k
      obtain⟨wi,hwi⟩:∃wi,wi=wr:=⟨_,rfl⟩
      subst hwi
      have hLb:(L.length:Int)≤2000000:=by omega
      by_cases hkl:k< L.length
      ·
       have hkI:(k:Int)< (L.length:Int):=by omega
       obtain⟨gs,gc,hsl,hgl,hcs⟩:=own_str_at (rows_ext HOJ.out.1 HX.out) k hkl
       cases hsl
       have hql:=HLO.out _ (List.getElem_mem hkl)
       have HLS:=Lh (lessb_any L[k] p wi kA kA)
       have HKS:=HK.out
       obtain⟨x,hx⟩:∃x,L[k]=x:=⟨_,rfl⟩
       have HXX:=Lh hx
       rw[hx]at hcs HLS
       clear hx hql
       go_wp2_with fail
       refine HLS.out.mono ?_
       rintro e w3 ⟨rfl,hX3⟩
       obtain⟨b,hb⟩:∃b,lessB x p=b:=⟨_,rfl⟩
       rw[hb]
       have HB:=Lh hb
       have hcs3:=hX3.keep hgl hcs
       have HX3:=Lh hX3
       clear hb hX3 HLS hcs
       cases b with
       | true=>
        have HK2:Hid (∀(j:Nat) (h:j< L.length),j< k+1→lessB L[j] p=true):=Lh fun j hj hjk=>by
         by_cases e:j=k
         ·
          subst e;rw[HXX.out];exact HB.out
         ·
          exact HKS j hj kA
        have HX4:=Lh (HX.out.trans HX3.out)
        clear HKS
        go_wp2_with fail
        go_roundw
        case rel=>exact⟨k+1,by go_num,by omega,HK2,HX4⟩
        case measure=>exact mZ
       | false=>
        have hkne:((k:Int)==(L.length:Int))=false:=beq_eq_false_iff_ne.2 kA
        by_cases hxp:x=p
        ·
         have hIE:insP L p=L:=insP_eq L p k hkl HKS (HXX.out.trans hxp) (by rw[HXX.out];exact HB.out)
         have hHN:=HNX.out
         rw[hIE]at hHN
         have HF:=Lh (And.intro (rows_ext HOJ.out.1 (HX.out.trans HX3.out)) (And.intro hHN.1 (And.intro hHN.2 (And.intro (HOJ.out.2.trans (HX.out.trans HX3.out)) HLO.out))))
         clear hIE hHN HKS
         subst hxp
         go_wp2_with fail
         go_roundw
         case rel=>exact⟨i+1,cnt+1,L,by go_num,by omega,by go_num,by omega,HF⟩
         case measure=>exact mZ
        ·
         have hxq:((bs x).toList !=(bs p).toList)=true:=by
          rw[bs_toList,bs_toList,bne_iff_ne];exact hxp
         have hxq2:((bs x).toList==(bs p).toList)=false:=by rw[bs_eqv];exact beq_eq_false_iff_ne.2 hxp
         have hxq3:¬(bs x).toList=(bs p).toList:=by rw[bs_toList,bs_toList];exact hxp
         have HIN:Hid (insP L p=L.take k++p::L.drop k):=Lh (insP_lt L p k hk HKS fun _=>by rw[HXX.out];exact⟨HB.out,hxp⟩)
         have HOI:Hid (w3.ownsRow w.heap.size 9 1 (.slice (some ⟨gs,0,none⟩) L.length oc) L.length (L.map fun x=>Value.string (bs x))∧Ext w w3):=Lh ⟨rows_ext HOJ.out.1 (HX.out.trans HX3.out),HOJ.out.2.trans (HX.out.trans HX3.out)⟩
         clear hxp HKS
         go_wp2_with fail
         clear hcs3
         obtain⟨oa,hoa⟩:∃a,some (⟨gs,0,none⟩:Addr)=a:=⟨_,rfl⟩
         rw[hoa]at HOI⊢
         obtain⟨wi,hwi⟩:∃W,W=w3:=⟨_,rfl⟩
         rw[←hwi]at HOI⊢
         clear hoa hwi
         obtain⟨us,hus⟩:∃us:List Value,L.map (fun x=>Value.string (bs x))=us:=⟨_,rfl⟩
         have hown:=HOI.out.1
         rw[hus]at hown
         obtain⟨vt,hvt,evt⟩:=src_take hown unStrI szStrI k hk
         obtain⟨vd,hvd,evd⟩:=src_drop hown unStrI szStrI k hk
         have h1u:∀u∈us,u.oneCell'=true:=fun u hu=>by
          rw[←hus]at hu
          obtain⟨x,_,rfl⟩:=List.mem_map.1 hu
          rfl
         have HUS:=Lh hus
         clear hus hown
         refine rg_begin (S:=Sx wi) kB (Sx.begin _) ?_
         have hSs:Sx wi (World.drew wi):=(Sx.begin _)
         refine gT 1 62 (.slice oa L.length oc) hSs ?_
         simp only[Act.put,sA,sZ,sS]
         refine gT 2 63 (.int .i64 k) hSs ?_
         simp only[Act.put,sA,sZ,sS]
         refine gT 3 64 (vt) hSs ?_ (hv:=fun w' hs=>by exact exec_slice rfl (evt w'))
         simp only[Act.put,sA,sZ,sS]
         refine gT 5 66 (.string (bs p)) hSs ?_
         simp only[Act.put,sA,sZ,sS]
         refine gT 8 69 (.slice oa L.length oc) hSs ?_
         simp only[Act.put,sA,sZ,sS]
         refine gT 9 70 (.int .i64 k) hSs ?_
         simp only[Act.put,sA,sZ,sS]
         refine gT 10 71 (vd) hSs ?_ (hv:=fun w' hs=>by exact exec_slice rfl (evd w'))
         simp only[Act.put,sA,sZ,sS]
         refine rg_row 0 6 4 7 61 67 65 68 64 66 27 9 j0 (.string ⟨#[]⟩) 1 16 rfl rfl rfl rfl Tryz.underlying27 ji jz0 jz1 jz2 rfl kD (.string (bs p)) (vt) [.string (bs p)] ((us.take (k*1))) (k) rfl rfl (hvt.ext hSs) (fun u hu=>h1u u (List.mem_of_mem_take hu)) kT rfl kA kD (fun w' h=>hSs.ext h) (fun ev W=>by first | rfl | go_simp) (fun ev W hK hX=>by first | rfl | go_simp) ?_
         intro gas gbs v2s v3s wxs hEs hrs hSs
         simp only[Act.put,sA,sZ,sS]
         have hrs:=(show World.ownsRow wxs wi.heap.size _ _ _ _ _ from hrs)
         refine rg_one 11 kB ?_
         refine tk_src 11 (some 72) rfl rfl (by rfl) (.tmp 68) (.tmp 71) 27 rfl wi.heap.size 9 j0 (.string ⟨#[]⟩) 1 16 Tryz.underlying27 ji jz0 jz1 jz2 rfl kD v3s (k+1) ((us.take (k*1))++([.string (bs p)]:List Value)) rfl hrs vd (L.length - k) (us.drop (k*1)) rfl (hvd.ext (show Ext wi wxs from hSs)) (fun u hu=>h1u u (List.mem_of_mem_drop hu)) kC kA (show Ext wi wxs from hSs).size ?_
         intro v4s w12 hr12 hg4s ha4s
         have hS12:Sx wi w12:=sx_grown hSs hrs hg4s
         refine⟨hS12,?_⟩
         simp only[Act.put,sA,sZ,sS]
         clear hrs hSs hEs hg4s ha4s
         refine gT 12 4 (v4s) hS12 ?_
         simp only[Act.put,sA,sZ,sS]
         refine rg_done kB ?_
         have HF:Hid (w12.ownsRow w.heap.size 9 1 v4s (insP L p).length ((insP L p).map fun x=>Value.string (bs x))∧Ext w w12):=Lh (by
          have hE12:Ext wi w12:=hS12
          refine⟨?_,HOI.out.2.trans hE12⟩
          have h1:=rows_low (show w12.ownsRow wi.heap.size 9 1 v4s (k+1+(L.length - k)) (us.take (k*1)++([.string (bs p)]:List Value)++us.drop (k*1)) from hr12) HOI.out.2.size
          have e1:(insP L p).length=k+1+(L.length - k):=by rw[HIN.out,List.length_append,List.length_take,List.length_cons,List.length_drop];omega
          have e2:((insP L p).map fun x=>Value.string (bs x))=us.take (k*1)++([.string (bs p)]:List Value)++us.drop (k*1):=by
           rw[HIN.out,←HUS.out,Nat.mul_one,List.map_append,List.map_cons,List.map_take,List.map_drop,List.append_assoc];rfl
          rw[e1,e2]
          exact h1)
         obtain⟨fa,fc,rfl⟩:=own_slice HF.out.1
         have HN:Hid ((rowsI (M.drop (i+1)) v++psT (T.drop (v+1)) (v+1)).foldl (fun L x=>insP L (rowP x)) (insP L p)=R∧cnt+1+(rowsI (M.drop (i+1)) v++psT (T.drop (v+1)) (v+1)).length=N):=HNX
         have hL9:(insP L p).length≤v*1000+(i+1):=by
          have e1:(insP L p).length=k+1+(L.length - k):=by rw[HIN.out,List.length_append,List.length_take,List.length_cons,List.length_drop];omega
          omega
         have hok9:Hid (∀x∈insP L p,x.length≤1000000000000):=Lh fun x hx=>by
          rcases (mem_insP L p x).1 hx with e | hx
          ·
           rw[e];exact hpl
          ·
           exact HLO.out x hx
         clear hr12 hS12 hvt evt hvd evd h1u
         go_wp2_with fail
         go_roundw
         case rel=>exact⟨i+1,cnt+1,insP L p,by go_num,by omega,by go_num,hL9,Lh ⟨HF.out.1,HN.out.1,HN.out.2,HF.out.2,hok9.out⟩⟩
         case measure=>exact mZ
      ·
       have hkI:¬(k:Int)< (L.length:Int):=by omega
       have hke:((k:Int)==(L.length:Int))=true:=beq_iff_eq.2 kA
       have HIN:Hid (insP L p=L.take k++p::L.drop k):=Lh (insP_lt L p k hk HK.out fun h=>absurd h hkl)
       have HOI:Hid (wi.ownsRow w.heap.size 9 1 (.slice oa L.length oc) L.length (L.map fun x=>Value.string (bs x))∧Ext w wi):=Lh ⟨rows_ext HOJ.out.1 HX.out,HOJ.out.2.trans HX.out⟩
       go_wp2_with fail
       obtain⟨us,hus⟩:∃us:List Value,L.map (fun x=>Value.string (bs x))=us:=⟨_,rfl⟩
       have hown:=HOI.out.1
       rw[hus]at hown
       obtain⟨vt,hvt,evt⟩:=src_take hown unStrI szStrI k hk
       obtain⟨vd,hvd,evd⟩:=src_drop hown unStrI szStrI k hk
       have h1u:∀u∈us,u.oneCell'=true:=fun u hu=>by
        rw[←hus]at hu
        obtain⟨x,_,rfl⟩:=List.mem_map.1 hu
        rfl
       have HUS:=Lh hus
       clear hus hown
       refine rg_begin (S:=Sx wi) kB (Sx.begin _) ?_
       have hSs:Sx wi (World.drew wi):=(Sx.begin _)
       refine gT 1 62 (.slice oa L.length oc) hSs ?_
       simp only[Act.put,sA,sZ,sS]
       refine gT 2 63 (.int .i64 k) hSs ?_
       simp only[Act.put,sA,sZ,sS]
       refine gT 3 64 (vt) hSs ?_ (hv:=fun w' hs=>by exact exec_slice rfl (evt w'))
       simp only[Act.put,sA,sZ,sS]
       refine gT 5 66 (.string (bs p)) hSs ?_
       simp only[Act.put,sA,sZ,sS]
       refine gT 8 69 (.slice oa L.length oc) hSs ?_
       simp only[Act.put,sA,sZ,sS]
       refine gT 9 70 (.int .i64 k) hSs ?_
       simp only[Act.put,sA,sZ,sS]
       refine gT 10 71 (vd) hSs ?_ (hv:=fun w' hs=>by exact exec_slice rfl (evd w'))
       simp only[Act.put,sA,sZ,sS]
       refine rg_row 0 6 4 7 61 67 65 68 64 66 27 9 j0 (.string ⟨#[]⟩) 1 16 rfl rfl rfl rfl Tryz.underlying27 ji jz0 jz1 jz2 rfl kD (.string (bs p)) (vt) [.string (bs p)] ((us.take (k*1))) (k) rfl rfl (hvt.ext hSs) (fun u hu=>h1u u (List.mem_of_mem_take hu)) kT rfl kA kD (fun w' h=>hSs.ext h) (fun ev W=>by first | rfl | go_simp) (fun ev W hK hX=>by first | rfl | go_simp) ?_
       intro gas gbs v2s v3s wxs hEs hrs hSs
       simp only[Act.put,sA,sZ,sS]
       have hrs:=(show World.ownsRow wxs wi.heap.size _ _ _ _ _ from hrs)
       refine rg_one 11 kB ?_
       refine tk_src 11 (some 72) rfl rfl (by rfl) (.tmp 68) (.tmp 71) 27 rfl wi.heap.size 9 j0 (.string ⟨#[]⟩) 1 16 Tryz.underlying27 ji jz0 jz1 jz2 rfl kD v3s (k+1) ((us.take (k*1))++([.string (bs p)]:List Value)) rfl hrs vd (L.length - k) (us.drop (k*1)) rfl (hvd.ext (show Ext wi wxs from hSs)) (fun u hu=>h1u u (List.mem_of_mem_drop hu)) kC kA (show Ext wi wxs from hSs).size ?_
       intro v4s w12 hr12 hg4s ha4s
       have hS12:Sx wi w12:=sx_grown hSs hrs hg4s
       refine⟨hS12,?_⟩
       simp only[Act.put,sA,sZ,sS]
       clear hrs hSs hEs hg4s ha4s
       refine gT 12 4 (v4s) hS12 ?_
       simp only[Act.put,sA,sZ,sS]
       refine rg_done kB ?_
       have HF:Hid (w12.ownsRow w.heap.size 9 1 v4s (insP L p).length ((insP L p).map fun x=>Value.string (bs x))∧Ext w w12):=Lh (by
        have hE12:Ext wi w12:=hS12
        refine⟨?_,HOI.out.2.trans hE12⟩
        have h1:=rows_low (show w12.ownsRow wi.heap.size 9 1 v4s (k+1+(L.length - k)) (us.take (k*1)++([.string (bs p)]:List Value)++us.drop (k*1)) from hr12) HOI.out.2.size
        have e1:(insP L p).length=k+1+(L.length - k):=by rw[HIN.out,List.length_append,List.length_take,List.length_cons,List.length_drop];omega
        have e2:((insP L p).map fun x=>Value.string (bs x))=us.take (k*1)++([.string (bs p)]:List Value)++us.drop (k*1):=by
         rw[HIN.out,←HUS.out,Nat.mul_one,List.map_append,List.map_cons,List.map_take,List.map_drop,List.append_assoc];rfl
        rw[e1,e2]
        exact h1)
       obtain⟨fa,fc,rfl⟩:=own_slice HF.out.1
       have HN:Hid ((rowsI (M.drop (i+1)) v++psT (T.drop (v+1)) (v+1)).foldl (fun L x=>insP L (rowP x)) (insP L p)=R∧cnt+1+(rowsI (M.drop (i+1)) v++psT (T.drop (v+1)) (v+1)).length=N):=HNX
       have hL9:(insP L p).length≤v*1000+(i+1):=by
        have e1:(insP L p).length=k+1+(L.length - k):=by rw[HIN.out,List.length_append,List.length_take,List.length_cons,List.length_drop];omega
        omega
       have hok9:Hid (∀x∈insP L p,x.length≤1000000000000):=Lh fun x hx=>by
        rcases (mem_insP L p x).1 hx with e | hx
        ·
         rw[e];exact hpl
        ·
         exact HLO.out x hx
       clear hr12 hS12 hvt evt hvd evd h1u
       go_wp2_with fail
       go_roundw
       case rel=>exact⟨i+1,cnt+1,insP L p,by go_num,by omega,by go_num,hL9,Lh ⟨HF.out.1,HN.out.1,HN.out.2,HF.out.2,hok9.out⟩⟩
       case measure=>exact mZ
    ·
     have hiI:¬(i:Int)< (M.length:Int):=by omega
     have hJ:=HJ.out
     rw[List.drop_of_length_le kA,show rowsI [] v= [] from rfl,List.nil_append]at hJ
     have HF:=Lh hJ
     have hL4:L.length≤(v+1)*1000:=by omega
     clear hJ HJ
     go_wp2_with fail
     go_roundw
     case rel=>exact⟨v+1,cnt,L,by go_num,by omega,rfl,hL4,HF⟩
     case measure=>exact mZ
  ·
   have hlI:¬(v:Int)< (T.length:Int):=by omega
   have hI:=HI.out
   rw[List.drop_of_length_le kA,show psT [] v= [] from rfl]at hI
   have e1:L0=R:=hI.2.1
   have e2:cnt0=N:=hI.2.2.1
   subst e1 e2
   have HF:=Lh hI
   obtain⟨K,hK⟩:∃K,L0.length=K:=⟨_,rfl⟩
   have HKK:=Lh hK
   rw[hK]
   clear hI HI hK hL0
   go_wp2_with fail
   go_ret2
   exact⟨⟨_,rfl,by rw[←HKK.out];exact HF.out.1⟩,HF.out.2.2.2.1⟩
theorem res_ctt {fn:Func} {t u x:Tmp} {T:TypeId} (h:fn.results= #[.cell t T,.tmp u,.tmp x]) (tmps:Array Value) (P:Program) (w:World) (ad:Addr) {v:Value} (ha:tmps.getD t undef= .pointer (some ad)) (hl:(loadVar T ad).run P w= .ok v w):
  (results fn tmps).run P w= .ok (.tuple #[v,tmps.getD u undef,tmps.getD x undef]) w:=by
 have ha':tmps[t]?.getD undef= .pointer (some ad):=by simpa using ha
 simp[results,h,ha',asAddr,hl]
def awR:List Rule:= [⟨[[100,98]],[]⟩]
def awD:List Node:= [.mk 1 [100,98] [] [] [],.mk 1 [100,98] [] [⟨[97],[120,121]⟩] []]
theorem awR_ok:RulesOk awR:=by
 intro r hr
 simp only[awR,List.mem_cons,List.not_mem_nil,or_false]at hr
 subst hr
 exact⟨by decide,fun k hk=>(by cases hk)⟩
theorem awD_wf:∀d∈awD,wfN awR d [[100,98]]:=by
 intro d hd
 simp only[awD,List.mem_cons,List.not_mem_nil,or_false]at hd
 have hf:frontS awR [[100,98]]=true:=by decide
 rcases hd with rfl | rfl
 ·
  rw[wfN_eq];exact⟨rfl,fun h=>by rw[hf]at h;cases h⟩
 ·
  rw[wfN_eq];exact⟨rfl,fun h=>by rw[hf]at h;cases h⟩
theorem aw_r1:rowsA 1 (rootP awR [100,98] awD) []= [(1,[100,98],[],[47,100,98])]:=by kernel_rfl
theorem aw_r2:rowsA 2 (rootP awR [100,98] awD) []= [(1,[100,98],[],[47,100,98]),(5,[97],[120,121],[47,100,98,47,64,97])]:=by kernel_rfl
theorem aw_ok:ArOk (rootP awR [100,98] awD) 2:=by
 refine⟨by decide,fun i hi=> ?_,fun i hi r hr=> ?_,fun i hi=> ?_⟩
 ·
  match i,hi with
  | 0,_=>show ahas (rootP awR [100,98] awD).vers 1=true;kernel_rfl
  | 1,_=>show ahas (rootP awR [100,98] awD).vers 2=true;kernel_rfl
 ·
  match i,hi with
  | 0,_=>
   rw[show(((0:Nat):Int)+1)=1 from rfl,aw_r1]at hr
   simp only[List.mem_cons,List.not_mem_nil,or_false]at hr
   subst hr
   exact⟨⟨by decide,by decide,by decide⟩,by decide,by decide⟩
  | 1,_=>
   rw[show(((1:Nat):Int)+1)=2 from rfl,aw_r2]at hr
   simp only[List.mem_cons,List.not_mem_nil,or_false]at hr
   rcases hr with rfl | rfl
   ·
    exact⟨⟨by decide,by decide,by decide⟩,by decide,by decide⟩
   ·
    exact⟨⟨by decide,by decide,by decide⟩,by decide,by decide⟩
 ·
  match i,hi with
  | 0,_=>rw[show(((0:Nat):Int)+1)=1 from rfl,aw_r1];decide
  | 1,_=>rw[show(((1:Nat):Int)+1)=2 from rfl,aw_r2];decide
def awP:List IR:= [(1,6,[],[],[47]),(1,1,[100,98],[],[47,100,98]),(2,6,[],[],[47]),(2,1,[100,98],[],[47,100,98]),(2,5,[97],[120,121],[47,100,98,47,64,97])]
theorem aw_ps:psA (rootP awR [100,98] awD) 2=awP:=by
 rw[psA,psA,psA]
 unfold tabA
 rw[show(((0:Nat):Int)+1)=1 from rfl,show(((1:Nat):Int)+1)=2 from rfl,aw_r1,aw_r2];rfl
theorem aw_n:tracesL awP (askF 0 5 [97])= [⟨[47,100,98,47,64,97],[⟨2,2⟩]⟩]:=by kernel_rfl
theorem aw_y:(tracesL awP (askF 1 0 [121])).length=1:=by kernel_rfl
theorem aw_z:tracesL awP (askF 1 0 [122])= []:=by kernel_rfl
theorem aw_l:(pathsL awP).length=3∧awP.length=5:=⟨by kernel_rfl,rfl⟩
theorem awake_any (w:World) (hmax:∃mx,w.cell? ⟨0,0,none⟩=some (.int .i64 mx)) (l00:0< w.heap.size):Calls Tryz.prog 6 #[] w fun e w'=>e= .returned (.bool true)∧Ext w w':=by
 obtain⟨a1,ha1⟩:∃W,w.alloc (.cells #[.string ⟨#[100,98]⟩] 9)=W:=⟨_,rfl⟩
 have ea1:Ext w a1:=by rw[←ha1];exact(Ext.refl _).alloc _
 have sa1:a1.heap.size=w.heap.size+1:=by rw[←ha1];simp
 have ra1:Rep a1 (fun _=>True) (.slice (some ⟨w.heap.size,0,none⟩) 1 1) (strsD [[100,98]]):=by rw[←ha1];exact rep_lit rfl rfl kD (Reps.cons (Rep.string _ _ (bs [100,98]) kD) (Reps.nil _ _))
 obtain⟨a2,ha2⟩:∃W,a1.alloc (.cells #[.slice (some ⟨w.heap.size,0,none⟩) 1 1,.slice none 0 0] 62)=W:=⟨_,rfl⟩
 have ea2:Ext a1 a2:=by rw[←ha2];exact(Ext.refl _).alloc _
 have sa2:a2.heap.size=w.heap.size+1+1:=by rw[←ha2];simp;rw[sa1]
 have ra2:Rep a2 (fun _=>True) (.slice (some ⟨a1.heap.size,0,none⟩) 1 1) (rulesD awR):=by rw[←ha2];exact rep_lit rfl rfl kD (Reps.cons (ra1) (Reps.cons (.nil 1) (Reps.nil _ _)))
 rw[sa1]at ra2
 obtain⟨a3,ha3⟩:∃W,a2.alloc (.cells #[.string ⟨#[97]⟩,.string ⟨#[120,121]⟩] 68)=W:=⟨_,rfl⟩
 have ea3:Ext a2 a3:=by rw[←ha3];exact(Ext.refl _).alloc _
 have sa3:a3.heap.size=w.heap.size+1+1+1:=by rw[←ha3];simp;rw[sa2]
 have ra3:Rep a3 (fun _=>True) (.slice (some ⟨a2.heap.size,0,none⟩) 1 1) (attrsD [⟨[97],[120,121]⟩]):=by rw[←ha3];exact rep_lit rfl rfl kD (Reps.cons (Rep.string _ _ (bs [97]) kD) (Reps.cons (Rep.string _ _ (bs [120,121]) kD) (Reps.nil _ _)))
 rw[sa2]at ra3
 obtain⟨a4,ha4⟩:∃W,a3.alloc (.cells #[.int .i64 1,.string ⟨#[100,98]⟩,.string ⟨#[]⟩,.slice none 0 0,.slice none 0 0,.int .i64 1,.string ⟨#[100,98]⟩,.string ⟨#[]⟩,.slice (some ⟨w.heap.size+1+1,0,none⟩) 1 1,.slice none 0 0] 66)=W:=⟨_,rfl⟩
 have ea4:Ext a3 a4:=by rw[←ha4];exact(Ext.refl _).alloc _
 have sa4:a4.heap.size=w.heap.size+1+1+1+1:=by rw[←ha4];simp;rw[sa3]
 have ra4:Rep a4 (fun _=>True) (.slice (some ⟨a3.heap.size,0,none⟩) 2 2) (nodesD awD):=by rw[←ha4];exact rep_lit rfl rfl kD (Reps.cons (Rep.int _ _ _ _) (Reps.cons (Rep.string _ _ (bs [100,98]) kD) (Reps.cons (Rep.string _ _ (bs []) kD) (Reps.cons (.nil 2) (Reps.cons (.nil 5) (Reps.cons (Rep.int _ _ _ _) (Reps.cons (Rep.string _ _ (bs [100,98]) kD) (Reps.cons (Rep.string _ _ (bs []) kD) (Reps.cons ra3 (Reps.cons (.nil 5) (Reps.nil _ _)))))))))))
 rw[sa3]at ra4
 have hEa:Ext w a4:=((ea1.trans ea2).trans ea3).trans ea4
 have hR:=(ra2.ext ea3).ext ea4
 have HBU:=Lh (build_any awR [100,98] awR_ok ⟨_,_,rfl⟩ awD (fun _=>True) _ _ a4 (fun d hd=>⟨awD_wf d hd,by simp only[awD,List.mem_cons,List.not_mem_nil,or_false]at hd;rcases hd with rfl | rfl<;> decide⟩) kD hR ra4)
 obtain⟨RT,hRT⟩:∃R,rootP awR [100,98] awD=R:=⟨_,rfl⟩
 have hok:=aw_ok
 have hps:=aw_ps
 rw[hRT]at HBU hok hps
 rw[show((awD.length:Nat):Int)=2 from rfl]at HBU
 have HAW:=Lh (And.intro hok hps)
 clear hRT hok hps
 have HHW:=Lh (And.intro ha1 (And.intro ha2 (And.intro ha3 ha4)))
 have HEA:=Lh hEa
 clear ha1 ha2 ha3 ha4 ra1 ra2 ra3 ra4 ea1 ea2 ea3 ea4 sa1 sa2 sa3 sa4 hR hEa
 go_enter Tryz.func6,Tryz.ntmps6
 go_wp2_with fail
 obtain⟨ha1,ha2,ha3,ha4⟩:=HHW.out
 rw[ha1,ha2,ha3,ha4]
 clear ha1 ha2 ha3 ha4 HHW
 refine HBU.out.mono ?_
 rintro e w2 ⟨⟨k,v,pa,c,kc,vc,pc,cc,rfl,hk,hv,hpa,hc⟩,hX2⟩
 have HNE:=Lh (xnew_any RT 2 2 rfl HAW.out.1 _ (some ⟨w.heap.size+1,0,none⟩) 1 1 k v pa c kc vc pc cc w2 hk hv hpa hc)
 have HX2:=Lh (HEA.out.trans hX2)
 clear HBU hk hv hpa hc hX2
 go_wp2_with fail
 refine HNE.out.mono ?_
 rintro e w3 ⟨⟨bx,rfl,hI⟩,hX3⟩
 rw[HAW.out.2]at hI
 have HI:=Lh (And.intro hI (HX2.out.trans hX3))
 have HPB:=Lh (psA_b HAW.out.1 2 (Nat.le_refl _))
 rw[HAW.out.2]at HPB
 clear HNE hI hX3 HX2
 have HNA:=Lh (xnamed_any _ w3 bx awP HI.out.1 (fun x hx=>(HPB.out x hx).1) (fun x hx=>(HPB.out x hx).2.1) 5 [97] (fun x hx=>(HPB.out x hx).2.2) kD)
 rw[aw_n]at HNA
 go_wp2_with fail
 refine HNA.out.mono ?_
 rintro e w4 ⟨⟨lv,rfl,hlv⟩,hX4⟩
 obtain⟨la',lc',rfl,_,_⟩:=hlv.count z_trc kA
 obtain⟨lb,lo,sv,rfl,lgl,_,l0,l1,hsv⟩:=trc_at hlv 0 kD
 obtain⟨sa,sn,sc,rfl,_⟩:=hsv.slice
 rw[show([(⟨[47,100,98,47,64,97],[⟨2,2⟩]⟩:Trc)]).length=1 from rfl]
 replace l0:w4.cell? ⟨lb,lo,none⟩=some (.string (bs [47,100,98,47,64,97])):=by rw[Nat.zero_mul,Nat.add_zero]at l0;exact l0
 replace l1:w4.cell? ⟨lb,lo+1,none⟩=some (.slice sa sn sc):=by rw[Nat.zero_mul,Nat.add_zero]at l1;exact l1
 replace hsv:Rep w4 _ (.slice sa sn sc) (spansD [⟨2,2⟩]):=hsv
 have HI4:=Lh (And.intro (HI.out.1.ext hX4) (And.intro (HI.out.2.trans hX4) hsv))
 have HSZ:=Lh (xsize_any _ w4 bx awP HI4.out.1)
 rw[aw_l.1,aw_l.2]at HSZ
 have hlc1:(1:Nat)≤lc':=by assumption
 have e6:((bs [47,100,98,47,64,97]).toList==([47,100,98,47,64,97]:List UInt8))=true:=by kernel_rfl
 have e7:(bs [47,100,98,47,64,97]).toList=([47,100,98,47,64,97]:List UInt8):=by kernel_rfl
 clear HNA hlv hX4 hsv
 go_wp2_with fail
 refine HSZ.out.mono ?_
 rintro e w5 ⟨rfl,hX5⟩
 have m0:=hX5.keep lgl l0
 have m1:=hX5.keep lgl l1
 have HI5:=Lh (And.intro (HI4.out.1.ext hX5) (And.intro (HI4.out.2.1.trans hX5) (HI4.out.2.2.ext hX5)))
 have HTX:=Lh (text22_any _ _ w5 HI5.out.2.2)
 clear HSZ l0 l1 hX5
 go_wp2_with fail
 refine HTX.out.mono ?_
 rintro e w6 ⟨rfl,hX6⟩
 have HI6:=Lh (And.intro (HI5.out.1.ext hX6) (HI5.out.2.1.trans hX6))
 have HHY:=Lh (xhold_any _ w6 bx awP HI6.out.1 (fun x hx=>(HPB.out x hx).1) (fun x hx=>(HPB.out x hx).2.1) [121] (fun x hx=>(HPB.out x hx).2.2) kD (by obtain⟨mx,hm⟩:=hmax;exact⟨mx,HI6.out.2.keep l00 hm⟩))
 obtain⟨LY,hLY⟩:∃L,tracesL awP (askF 1 0 [121])=L:=⟨_,rfl⟩
 have hyl:=aw_y
 rw[hLY]at HHY hyl
 have e50:((bs [50]).toList==([50]:List UInt8))=true:=by kernel_rfl
 have e51:(bs [50]).toList=([50]:List UInt8):=by kernel_rfl
 clear hX6 HTX hLY m0 m1 e6 e7
 go_wp2_with fail
 refine HHY.out.mono ?_
 rintro e w7 ⟨⟨yv,rfl,hyv⟩,hX7⟩
 obtain⟨ya,yc,rfl,_,_⟩:=hyv.count z_trc kA
 rw[hyl]
 have HI7:=Lh (And.intro (HI6.out.1.ext hX7) (HI6.out.2.trans hX7))
 have HHZ:=Lh (xhold_any _ w7 bx awP HI7.out.1 (fun x hx=>(HPB.out x hx).1) (fun x hx=>(HPB.out x hx).2.1) [122] (fun x hx=>(HPB.out x hx).2.2) kD (by obtain⟨mx,hm⟩:=hmax;exact⟨mx,HI7.out.2.keep l00 hm⟩))
 rw[aw_z]at HHZ
 clear hyv hX7 HHY e50 e51
 go_wp2_with fail
 refine HHZ.out.mono ?_
 rintro e w8 ⟨⟨zv,rfl,hzv⟩,hX8⟩
 obtain⟨za,zc,rfl,_,_⟩:=hzv.count z_trc kA
 rw[show([]:List Trc).length=0 from rfl]
 have HF:=Lh (HI7.out.2.trans hX8)
 clear hzv hX8 HHZ
 go_wp2_with fail
 go_ret
 exact⟨rfl,HF.out⟩
theorem six_cells {W X:World} {g:Nat} (v0 v1 v2 v3 v4 v5:Value) (h:Z6 W g)
  (hX:(((((W.setCell ⟨g,0,none⟩ v0).setCell ⟨g,1,none⟩ v1).setCell ⟨g,2,none⟩ v2).setCell ⟨g,3,none⟩ v3).setCell ⟨g,4,none⟩ v4).setCell ⟨g,5,none⟩ v5=X):
  X.cell? ⟨g,0,none⟩=some v0∧X.cell? ⟨g,1,none⟩=some v1∧X.cell? ⟨g,2,none⟩=some v2∧X.cell? ⟨g,3,none⟩=some v3∧X.cell? ⟨g,4,none⟩=some v4∧X.cell? ⟨g,5,none⟩=some v5:=by
 have c0:=h.c0;have c1:=h.c1;have c2:=h.c2;have c3:=h.c3;have c4:=h.c4;have c5:=h.c5
 subst hX
 refine⟨by go_simp,by go_simp,by go_simp,by go_simp,by go_simp,by go_simp⟩
theorem row_slice {w:World} {base n:Nat} {e:TypeId} {z:Nat} {v:Value} {xs:List Value} (h:w.ownsRow base e z v n xs):∃a c,v= .slice a n c:=by
 rcases h.2 with⟨rfl,rfl⟩ | ⟨g,c,_,rfl,_⟩
 ·
  exact⟨_,_,rfl⟩
 ·
  exact⟨_,_,rfl⟩
def cntS:List Span→Int
 | []=>0
 | s::r=>(s.b - s.a+1)+cntS r
theorem cntS_le:∀(l:List Span) (lo:Int),lo≤202→mayG lo l→0≤cntS l∧cntS l≤202 - lo
 | [],lo,h,_=>by unfold cntS;omega
 | s::r,lo,h,⟨h1,h2,h3,h4⟩=>by
  have:=cntS_le r (s.b+2) kA h4
  unfold cntS
  omega
theorem cntS_drop (l:List Span) (i:Nat) (h:i< l.length):cntS (l.drop i)=(l[i].b - l[i].a+1)+cntS (l.drop (i+1)):=by
 rw[List.drop_eq_getElem_cons h,cntS]
theorem mayG_drop:∀(l:List Span) (lo:Int),mayG lo l→∀i:Nat,0≤cntS (l.drop i)
 | [],lo,_,i=>by rw[List.drop_nil];exact Int.le_refl _
 | s::r,lo,h,0=>by
  obtain⟨h1,h2,h3,h4⟩:=h
  by_cases hlo:lo≤202
  ·
   exact(cntS_le (s::r) lo hlo ⟨h1,h2,h3,h4⟩).1
  ·
   omega
 | s::r,lo,⟨_,_,_,h4⟩,i+1=>mayG_drop r _ h4 i
theorem runE_count (f:Nat→Bool) (v E:Nat) (hv:v≤E) (h0:f v=true) (h:∀j,v< j→j≤E→f j=true):(List.range' v (E+1 - v)).countP f=E+1 - v:=by
 have:(List.range' v (E+1 - v)).countP f=(List.range' v (E+1 - v)).length:=by
  rw[List.countP_eq_length]
  intro j hj
  rw[List.mem_range'_1]at hj
  by_cases e:j=v
  ·
   rw[e];exact h0
  ·
   exact h j kA kA
 rw[this,List.length_range']
theorem cntS_spansV (f:Nat→Bool):∀(k v:Nat),201 - v≤k→cntS (spansV f k v)=((List.range' v (201 - v)).countP f:Nat)
 | 0,v,h=>by
  rw[show 201 - v=0 by omega];rfl
 | k+1,v,h=>by
  unfold spansV
  by_cases hv:v≤200
  ·
   rw[if_pos hv]
   by_cases hf:f v=true
   ·
    rw[if_pos hf]
    obtain⟨g1,g2⟩:=runE_ge f (200 - v) v
    obtain⟨a1,_⟩:=runE_all f (200 - v) v
    obtain⟨E,hE⟩:∃E,runE f (200 - v) v=E:=⟨_,rfl⟩
    rw[hE]at g1 g2 a1⊢
    have g3:=g2 hv
    rw[cntS,cntS_spansV f k (E+1) kA]
    have e:=List.range'_append_1 (s:=v) (m:=E+1 - v) (n:=201 - (E+1))
    rw[show v+(E+1 - v)=E+1 by omega,show E+1 - v+(201 - (E+1))=201 - v by omega]at e
    rw[←e,List.countP_append,runE_count f v E g1 hf a1]
    simp only
    omega
   ·
    rw[if_neg hf,cntS_spansV f k (v+1) kA]
    have e:List.range' v (201 - v)=v::List.range' (v+1) (201 - (v+1)):=by
     rw[show 201 - v=(201 - (v+1))+1 by omega];rfl
    rw[e,List.countP_cons,if_neg hf];simp
  ·
   rw[if_neg hv,show 201 - v=0 by omega];rfl
theorem flOf_count (L:List Int) (hn:L.Nodup) (hL:∀u∈L,1≤u∧u≤200):cntS (spansOf (flOf L))=L.length:=by
 unfold spansOf
 rw[cntS_spansV _ 200 1 kA,List.countP_eq_length_filter]
 have hp:(((List.range' 1 (201 - 1)).filter (flOf L)).map fun j:Nat=>(j:Int)).Perm L:=by
  rw[List.perm_ext_iff_of_nodup ?_ hn]
  ·
   intro u
   rw[List.mem_map]
   constructor
   ·
    rintro⟨j,hj,rfl⟩
    rw[List.mem_filter]at hj
    exact((flOf_mem _ _).1 hj.2).2.2
   ·
    intro hu
    obtain⟨h1,h2⟩:=hL u hu
    refine⟨u.toNat,?_,by omega⟩
    rw[List.mem_filter,List.mem_range'_1]
    exact⟨by omega,(flOf_mem _ _).2 ⟨by omega,by omega,by rw[Int.toNat_of_nonneg kA];exact hu⟩⟩
  ·
   refine List.Pairwise.map (R:=fun a b:Nat=>a≠b) _ (fun a b h=> ?_) ((List.nodup_range' (s:=1) (n:=201 - 1) (step:=1)).filter _)
   intro e;exact h kA
 have:=hp.length_eq
 rw[List.length_map]at this
 rw[this]
theorem sum_filter {α:Type} (g:α→Bytes):∀(PS:List α) (Q:List Bytes),Q.Nodup→(∀x∈PS,g x∈Q)→(Q.map fun p=>(PS.filter fun x=>decide (g x=p)).length).sum=PS.length
 | [],Q,_,_=>by
  have h0:∀r:List Bytes,(r.map fun _=>0).sum=0:=fun r=>by
   induction r with
   | nil=>rfl
   | cons q r ih=>rw[List.map_cons,List.sum_cons,ih]
  exact h0 Q
 | x::PS,Q,hn,hm=>by
  have ih:=sum_filter g PS Q hn fun y hy=>hm y (List.mem_cons_of_mem _ hy)
  have hx:=hm x List.mem_cons_self
  rw[List.length_cons,←ih]
  clear ih hm
  induction Q with
  | nil=>cases hx
  | cons q r ihq=>
   rw[List.map_cons,List.sum_cons,List.map_cons,List.sum_cons,List.filter_cons]
   obtain⟨hq,hr⟩:=List.nodup_cons.1 hn
   by_cases e:g x=q
   ·
    have h0:∀p∈r,(List.filter (fun y=>decide (g y=p)) (x::PS)).length=(PS.filter fun y=>decide (g y=p)).length:=fun p hp=>by
     rw[List.filter_cons,if_neg]
     simp only[decide_eq_true_eq]
     intro e';exact hq (by rw[←e,e'];exact hp)
    rw[if_pos (decide_eq_true e),List.length_cons,List.map_congr_left h0]
    omega
   ·
    rw[if_neg (by simpa using e)]
    have:=ihq hr ((List.mem_cons.1 hx).resolve_left e)
    omega
theorem psT_nodup:∀(T:List (List QN)) (i:Nat),(∀t∈T,(t.map fun q=>rowP ((0:Int),k4 q)).Nodup)→(∀x∈psT T i,(i:Int)+1≤x.1)∧∀p:Bytes,(((psT T i).filter fun x=>decide (rowP x=p)).map (·.1)).Nodup
 | [],_,_=>by
  refine⟨fun x hx=> ?_,fun p=> ?_⟩
  ·
   rw[psT]at hx;cases hx
  ·
   rw[psT];exact List.nodup_nil
 | t::r,i,h=>by
  obtain⟨i1,i2⟩:=psT_nodup r (i+1) fun u hu=>h u (List.mem_cons_of_mem _ hu)
  refine⟨fun x hx=> ?_,fun p=> ?_⟩
  ·
   rw[psT]at hx
   rcases List.mem_append.1 hx with hx | hx
   ·
    obtain⟨q,_,rfl⟩:=List.mem_map.1 hx
    exact Int.le_refl _
   ·
    have:=i1 x hx;omega
  ·
   rw[psT,List.filter_append,List.map_append,List.nodup_append]
   have hone:∀u:List QN,(u.map fun q=>rowP ((0:Int),k4 q)).Nodup→(((u.map fun q=>(((i:Int)+1,k4 q):IR)).filter fun x=>decide (rowP x=p)).map (·.1)).length≤1:=by
    intro u
    induction u with
    | nil=>intro _;simp
    | cons q u ih=>
     intro hn
     rw[List.map_cons]at hn
     obtain⟨h1,h2⟩:=List.nodup_cons.1 hn
     rw[List.map_cons,List.filter_cons]
     by_cases e:rowP (((i:Int)+1,k4 q):IR)=p
     ·
      rw[if_pos (decide_eq_true e)]
      have h0:(u.map fun q=>(((i:Int)+1,k4 q):IR)).filter (fun x=>decide (rowP x=p))= []:=by
       rw[List.filter_eq_nil_iff]
       intro x hx
       obtain⟨q',hq',rfl⟩:=List.mem_map.1 hx
       rw[decide_eq_true_eq]
       intro e'
       exact h1 (List.mem_map.2 ⟨q',hq',e'.trans e.symm⟩)
      rw[h0];simp
     ·
      rw[if_neg (by simpa using e)]
      exact ih h2
   have h1:=hone t (h t List.mem_cons_self)
   refine⟨?_,i2 p,fun a ha b hb e=> ?_⟩
   ·
    match hh:(List.map (fun x=>x.1) (List.filter (fun x=>decide (rowP x=p)) (List.map (fun q=>(((i:Int)+1,k4 q):IR)) t)))with
    | []=>exact List.nodup_nil
    | [a]=>simp
    | a::b::c=>rw[hh]at h1;simp at h1
   ·
    obtain⟨x,hx,rfl⟩:=List.mem_map.1 ha
    obtain⟨y,hy,rfl⟩:=List.mem_map.1 hb
    obtain⟨q,_,rfl⟩:=List.mem_map.1 (List.mem_filter.1 hx).1
    have:=i1 y (List.mem_filter.1 hy).1
    simp only at e
    omega
theorem versR_all (PS:List IR) (p:Bytes):versR PS p (askF 2 0 [])=(PS.filter fun x=>decide (rowP x=p)).map (·.1):=by
 unfold versR
 congr 1
 refine List.filter_congr fun x _=> ?_
 rw[show askF 2 0 [] (rowM x)=true from rfl,Bool.and_true]
theorem sums_law (T:List (List QN)) (hT:T.length≤12) (h:∀t∈T,(t.map fun q=>rowP ((0:Int),k4 q)).Nodup) (PS:List IR) (hPS:psT T 0=PS) (hv:∀x∈PS,1≤x.1∧x.1≤12):
  ((pathsL PS).map fun p=>cntS (versS PS p (askF 2 0 []))).sum=PS.length:=by
 have e:∀p∈pathsL PS,cntS (versS PS p (askF 2 0 []))=(((PS.filter fun x=>decide (rowP x=p)).length:Nat):Int):=fun p _=>by
  unfold versS
  rw[versR_all,flOf_count _ (by rw[←hPS];exact(psT_nodup T 0 h).2 p) (fun u hu=>by
   obtain⟨x,hx,rfl⟩:=List.mem_map.1 hu
   have:=hv x (List.mem_filter.1 hx).1
   omega),List.length_map]
 rw[List.map_congr_left e]
 have hs:=sum_filter rowP PS (pathsL PS) ((pathsL_lt PS).imp fun h e=>by rw[e]at h;exact absurd h (List.lt_irrefl _)) fun x hx=>(mem_pathsL PS (rowP x)).2 ⟨x,hx,rfl⟩
 rw[←hs]
 generalize pathsL PS=Q
 induction Q with
 | nil=>rfl
 | cons q r ih=>rw[List.map_cons,List.sum_cons,ih,List.map_cons,List.sum_cons];omega
theorem count_any (x:List Span) (hx:mayG 1 x) (p:Nat→Prop) (v:Value) (w:World) (h:Rep w p v (spansD x)):
  Calls Tryz.prog 19 #[v] w fun e w'=>e= .returned (.int .i64 (cntS x))∧Ext w w':=by
 have HM:=Lh fun W (hE:Ext w W)=>may_set x p v W (h.ext hE)
 rw[mayI_of x 1 (-1) hx kA (.inl kA)]at HM
 obtain⟨a,c,rfl,hc1,hc2⟩:=h.count z_span kA
 obtain⟨C,hC⟩:∃C,cntS x=C:=⟨_,rfl⟩
 have HC201:=Lh (cntS_le x 1 kA hx)
 rw[hC]at HC201⊢
 have HR:Hid (0+cntS (x.drop 0)=C):=Lh (by rw[List.drop_zero,hC,Int.zero_add])
 have HX0:=Lh hx
 clear hC hx
 go_enter Tryz.func19,Tryz.ntmps19
 go_wp2_with fail
 refine(HM.out w (Ext.refl _)).mono ?_
 rintro e w1 ⟨rfl,hX1⟩
 have HX1:=Lh hX1
 clear hX1 HM
 go_wp2_with fail
 go_loopw [3,10] (fun sv t wr=>∃(i:Nat) (S:Int),t= .int .i64 i∧sv= .int .i64 S∧i≤x.length∧0≤S∧S≤201∧Ext w wr∧Hid (S+cntS (x.drop i)=C)) (fun _ t _=>downV x.length t)
 case atStart=>exact⟨0,0,rfl,rfl,Nat.zero_le _,by omega,by omega,HX1.out,HR⟩
 case round=>
  clear HR
  obtain⟨i,S,rfl,rfl,hi,hS1,hS2,hX,HI⟩:=hrel
  have hi0:=nZ0 i
  by_cases hlt:i< x.length
  ·
   have hlI:(i:Int)< (x.length:Int):=by omega
   obtain⟨g,o,rfl,lg,_,d0,d1⟩:=span_at (h.ext hX) i hlt
   have HS:=Lh (cntS_drop x i hlt)
   obtain⟨m1,m2,m3⟩:=mayG_at x 1 HX0.out i hlt
   obtain⟨s,hs⟩:∃s,x[i]=s:=⟨_,rfl⟩
   rw[hs]at d0 d1 HS m1 m2 m3
   obtain⟨wo,hwo⟩:∃wo,wo=wr:=⟨_,rfl⟩
   subst hwo
   clear hs
   have hS3:S+(s.b - s.a+1)≤201:=by
    have h1:=HI.out
    rw[HS.out]at h1
    have h2:=mayG_drop x 1 HX0.out (i+1)
    have h3:=HC201.out
    omega
   have hS4:0≤S+(s.b - s.a+1):=by omega
   have HI2:Hid (S+(s.b - s.a+1)+cntS (x.drop (i+1))=C):=Lh (by rw[←HI.out,HS.out];omega)
   clear HI HS
   go_wp2_with fail
   go_roundw
   case rel=>exact⟨i+1,S+(s.b - s.a+1),by go_num,by go_num,by omega,hS4,hS3,hX.alloc _,HI2⟩
   case measure=>exact mZ
  ·
   have hlI:¬(i:Int)< (x.length:Int):=by omega
   have hSC:S=C:=by
    have h1:=HI.out
    rw[List.drop_eq_nil_of_le kA,cntS]at h1
    omega
   subst hSC
   clear HI HC201
   go_wp2_with fail
   go_ret
   exact⟨rfl,hX⟩
def MadeS (l:List Rule) (e:Ending) (w':World):Prop:=∃(b:Bool) (last:Int) (n:ANode) (k v pa c ta:Option Addr) (kc vc pc cc tn tc:Nat),
 e= .returned (.tuple #[.agg #[.int .i64 last,.string (bs n.name),.slice k n.key.length kc,.slice v n.vers.length vc,.slice pa n.parts.length pc,.slice c n.kids.length cc],.slice ta tn tc,.bool b])∧
 (b=true→∃(N:Nat) (T:List (List QN)),last=N∧ArOk n N∧psA n N=psT T 0∧T.length≤12∧tn=T.length∧(∀t∈T,t.length≤100)∧(∀t∈T,∀q∈t,ok4 (k4 q))∧Rep w' (fun _=>True) (.slice ta tn tc) (tabsD T)∧
  Rep w' (fun _=>True) (.slice k n.key.length kc) (strsD n.key)∧Rep w' (fun _=>True) (.slice v n.vers.length vc) (spansD n.vers)∧Rep w' (fun _=>True) (.slice pa n.parts.length pc) (partsD n.parts)∧Rep w' (fun _=>True) (.slice c n.kids.length cc) (anodesD n.kids)∧
  ∀t∈T,(t.map fun q=>rowP ((0:Int),k4 q)).Nodup)
theorem insP_len:∀(L:List Bytes) (p:Bytes),(insP L p).length≤L.length+1
 | [],p=>by simp[insP]
 | q::r,p=>by
  unfold insP
  split
  ·
   have:=insP_len r p;simp only[List.length_cons];omega
  ·
   split
   ·
    simp only[List.length_cons];omega
   ·
    simp only[List.length_cons];omega
theorem pathsF_len:∀(PS:List IR) (L:List Bytes),(PS.foldl (fun L x=>insP L (rowP x)) L).length≤L.length+PS.length
 | [],L=>Nat.le_refl _
 | x::r,L=>by
  have h1:=pathsF_len r (insP L (rowP x))
  have h2:=insP_len L (rowP x)
  rw[List.foldl_cons,List.length_cons]
  omega
theorem pathsL_len (PS:List IR):(pathsL PS).length≤PS.length:=by
 have:=pathsF_len PS []
 rw[List.length_nil,Nat.zero_add]at this
 exact this
theorem row_pos {w:World} {base n:Nat} {e:TypeId} {z:Nat} {v:Value} {xs:List Value} (h:w.ownsRow base e z v n xs) (hn:0< n):∃g c,v= .slice (some ⟨g,0,none⟩) n c:=by
 rcases h.2 with⟨_,h0⟩ | ⟨g,c,_,hv,_⟩
 ·
  omega
 ·
  exact⟨g,c,hv⟩
theorem sum_nn {α:Type} (f:α→Int) (hf:∀x,0≤f x):∀L:List α,0≤(L.map f).sum
 | []=>Int.le_refl _
 | x::r=>by rw[List.map_cons,List.sum_cons];have:=sum_nn f hf r;have:=hf x;omega
theorem drop_sum {α:Type} (f:α→Int) (L:List α) (i:Nat) (h:i< L.length):((L.drop i).map f).sum=f L[i]+((L.drop (i+1)).map f).sum:=by
 rw[List.drop_eq_getElem_cons h,List.map_cons,List.sum_cons]
theorem sums_walk (l:List Rule) (docs:List Node) (vl vd:Value) (w:World) (hvl:Rep w (fun _=>True) vl (rulesD l)) (hmade:∀W,Ext w W→Calls Tryz.prog 7 #[vl,vd] W fun e w'=>MadeS l e w'∧Ext W w') (hmax:∃mx,w.cell? ⟨0,0,none⟩=some (.int .i64 mx)) (l00:0< w.heap.size):
  Calls Tryz.prog 4 #[vl,vd] w fun e w'=>e= .returned (.bool true)∧Ext w w':=by
 have HAW:=Lh (awake_any w hmax l00)
 have HMD:=Lh hmade
 obtain⟨la,lc,rfl,_,_⟩:=hvl.count z_rule kA
 clear hmax l00 hmade hvl
 go_enter Tryz.func4,Tryz.ntmps4
 go_wp2_with fail
 refine HAW.out.mono ?_
 rintro e w2 ⟨rfl,hX2⟩
 have HM2:=Lh (HMD.out w2 hX2)
 have HX2:=Lh hX2
 clear HAW HMD hX2
 go_wp2_with fail
 refine HM2.out.mono ?_
 rintro e w3 ⟨⟨b,last,n,k,v,pa,c,ta,kc,vc,pc,cc,tn,tc,rfl,hM⟩,hX3⟩
 have HM:=Lh hM
 obtain⟨w4,hw4⟩:∃X,w3.alloc (.cells #[.int .i64 0,.string ⟨#[]⟩,.slice none 0 0,.slice none 0 0,.slice none 0 0,.slice none 0 0] 34)=X:=⟨_,rfl⟩
 have hX4:Ext w3 w4:=by rw[←hw4];exact(Ext.refl _).alloc _
 have hz4:Z6 w4 w3.heap.size:=by
  rw[←hw4]
  exact⟨by simp,by simp[go_sem],by simp[go_sem],by simp[go_sem],by simp[go_sem],by simp[go_sem],by simp[go_sem],by simp[go_sem],by simp[go_sem],by simp[go_sem],by simp[go_sem],by simp[go_sem],by simp[go_sem]⟩
 have HX3:=Lh (And.intro (HX2.out.trans hX3) (And.intro hX4 hz4))
 clear HM2 hM hX3 HX2 hX4 hz4
 obtain⟨u0,c0⟩:∃u,w4.cell? ⟨w3.heap.size,0,none⟩=some u:=⟨_,HX3.out.2.2.c0⟩
 obtain⟨u1,c1⟩:∃u,w4.cell? ⟨w3.heap.size,1,none⟩=some u:=⟨_,HX3.out.2.2.c1⟩
 obtain⟨u2,c2⟩:∃u,w4.cell? ⟨w3.heap.size,2,none⟩=some u:=⟨_,HX3.out.2.2.c2⟩
 obtain⟨u3,c3⟩:∃u,w4.cell? ⟨w3.heap.size,3,none⟩=some u:=⟨_,HX3.out.2.2.c3⟩
 obtain⟨u4,c4⟩:∃u,w4.cell? ⟨w3.heap.size,4,none⟩=some u:=⟨_,HX3.out.2.2.c4⟩
 obtain⟨u5,c5⟩:∃u,w4.cell? ⟨w3.heap.size,5,none⟩=some u:=⟨_,HX3.out.2.2.c5⟩
 have f0:=HX3.out.2.2.f0;have f1:=HX3.out.2.2.f1;have f2:=HX3.out.2.2.f2;have f3:=HX3.out.2.2.f3;have f4:=HX3.out.2.2.f4;have f5:=HX3.out.2.2.f5
 obtain⟨gb,hgb⟩:∃g,w3.heap.size=g:=⟨_,rfl⟩
 rw[hgb]at c0 c1 c2 c3 c4 c5 f0 f1 f2 f3 f4 f5 HX3
 have HG:=Lh hgb
 obtain⟨w5,hw5⟩:∃X,(((((w4.setCell ⟨gb,0,none⟩ (.int .i64 last)).setCell ⟨gb,1,none⟩ (.string (bs n.name))).setCell ⟨gb,2,none⟩ (.slice k n.key.length kc)).setCell ⟨gb,3,none⟩ (.slice v n.vers.length vc)).setCell ⟨gb,4,none⟩ (.slice pa n.parts.length pc)).setCell ⟨gb,5,none⟩ (.slice c n.kids.length cc)=X:=⟨_,rfl⟩
 have hX35:Ext w3 w5:=by
  rw[←hw5]
  exact(((((HX3.out.2.1.set (p:=⟨gb,0,none⟩) (Nat.le_of_eq hgb) _).set (p:=⟨gb,1,none⟩) (Nat.le_of_eq hgb) _).set (p:=⟨gb,2,none⟩) (Nat.le_of_eq hgb) _).set (p:=⟨gb,3,none⟩) (Nat.le_of_eq hgb) _).set (p:=⟨gb,4,none⟩) (Nat.le_of_eq hgb) _).set (p:=⟨gb,5,none⟩) (Nat.le_of_eq hgb) _
 obtain⟨d0,d1,d2,d3,d4,d5⟩:=six_cells _ _ _ _ _ _ HX3.out.2.2 hw5
 have HX5:=Lh (And.intro (HX3.out.1.trans hX35) hX35)
 clear hX35 HX3
 cases b with
 | false=>
  go_wp2_with fail
  go_ret
  exact⟨rfl,HX5.out.1⟩
 | true=>
  obtain⟨N,T,hlast,hok,hPS,hT12,rfl,hTl,hok4,htv,hk,hv,hpa,hc,hnd⟩:=HM.out rfl
  obtain⟨PS,hPSn⟩:∃X,psT T 0=X:=⟨_,rfl⟩
  have hPB:=psA_b hok N (Nat.le_refl _)
  rw[hPS,hPSn]at hPB
  have hPSa:psA n N=PS:=hPS.trans hPSn
  have HNEW:=Lh fun W (hE:Ext w5 W)=>xnew_any n N last hlast hok (fun _=>True) la l.length lc k v pa c kc vc pc cc W (hk.ext (HX5.out.2.trans hE)) (hv.ext (HX5.out.2.trans hE)) (hpa.ext (HX5.out.2.trans hE)) (hc.ext (HX5.out.2.trans hE))
  rw[hPSa]at HNEW
  have hL6:PS.length≤1000000:=by have h:=psT_len T 0 (fun t ht=>by have:=hTl t ht;omega);rw[hPSn]at h;omega
  have HSL:=Lh (And.intro (sums_law T hT12 hnd PS hPSn fun x hx=>(hPB x hx).1) hL6)
  have HPLn:=Lh (fun x hx=>(hPB x hx).2.2)
  have HPX:=Lh (And.intro (fun x hx=>(hPB x hx).1) (fun x hx=>(hPB x hx).2.1))
  have HTV:=Lh (And.intro (htv.ext HX5.out.2) (And.intro hT12 (And.intro hTl hok4)))
  have HPSn:=Lh hPSn
  clear hlast hok hPS hTl hok4 htv hk hv hpa hc HM hPSa hPSn hT12 hnd hPB hL6
  go_wp2_with fail
  refine(HNEW.out w5 (Ext.refl _)).mono ?_
  rintro e w6 ⟨⟨bx,rfl,hI⟩,hX6⟩
  have HI:=Lh hI
  have HXW:=Lh (HX5.out.1.trans hX6)
  have HPA:=Lh fun W (hE:Ext w6 W)=>rpaths_any T (by have:=HTV.out.2.1;omega) (fun t ht=>by have:=HTV.out.2.2.1 t ht;omega) HTV.out.2.2.2 _ _ W ((HTV.out.1.ext hX6).ext hE)
  rw[HPSn.out]at HPA
  obtain⟨Q,hQ⟩:∃x,pathsL PS=x:=⟨_,rfl⟩
  obtain⟨NR,hNR⟩:∃x,PS.length=x:=⟨_,rfl⟩
  have HSZ:=Lh fun W (hE:Ext w6 W)=>xsize_any _ W bx PS (HI.out.ext hE)
  have HQl:=Lh (pathsL_len PS)
  rw[hQ,hNR]at HPA HSL HSZ HQl
  have HC:=Lh fun(q:Bytes) (hq:q.length≤9223372036854775807) W (hE:Ext w6 W)=>xpath_any _ W bx PS (HI.out.ext hE) HPX.out.1 HPX.out.2 q hq
  have HK:=Lh fun(q:Bytes)=>(spansOf_may (flOf (versR PS q (askF 2 0 []))))
  have HPP:=Lh (show∀q∈Q,q.length≤9223372036854775807 from fun q hq=>by
   rw[←hQ]at hq
   obtain⟨x,hx,rfl⟩:=(mem_pathsL PS q).1 hq
   have:=(HPLn.out x hx)
   omega)
  clear hI hX6 HNEW hNR d0 d1 d2 d3 d4 d5 hw4 hw5 hgb c0 c1 c2 c3 c4 c5 f0 f1 f2 f3 f4 f5 hQ
  go_wp2_with fail
  refine(HPA.out w6 (Ext.refl _)).mono ?_
  rintro e w7 ⟨⟨rv,rfl,hrv⟩,hX7⟩
  obtain⟨ra,rc,rfl⟩:=row_slice hrv
  have HRV:=Lh hrv
  have HX7:=Lh hX7
  have hnr:NR≤1000000:=HSL.out.2
  have H0:Hid (0+((Q.drop 0).map fun p=>cntS (versS PS p (askF 2 0 []))).sum=(NR:Int)):=Lh (by rw[List.drop_zero,Int.zero_add];exact HSL.out.1)
  clear hrv hX7 HPA HSL
  go_wp2_with fail
  go_loopw [11,12] (fun sv t wr=>∃(i:Nat) (S:Int),t= .int .i64 i∧sv= .int .i64 S∧i≤Q.length∧0≤S∧Hid (Ext w7 wr)∧Hid (S+((Q.drop i).map fun p=>cntS (versS PS p (askF 2 0 []))).sum=(NR:Int))) (fun _ t _=>downV Q.length t)
  case atStart=>exact⟨0,0,rfl,rfl,Nat.zero_le _,Int.le_refl _,Lh (Ext.refl _),H0⟩
  case round=>
   clear H0
   obtain⟨i,S,rfl,rfl,hi,hS0,HX,HI2⟩:=hrel
   have hi0:=nZ0 i
   have hQI:(Q.length:Int)≤1000000:=by have:=HQl.out;omega
   by_cases hlt:i< Q.length
   ·
    have hlI:(i:Int)< (Q.length:Int):=by omega
    obtain⟨g,cap,hg⟩:=row_pos HRV.out kA
    injection hg with hg1 hg2 hg3
    subst hg1 hg3
    have cp:=HRV.out.cells (g:=g) rfl i (.string (bs Q[i])) (by simp[hlt])
    rw[add_offs',Nat.zero_add]at cp
    replace cp:=HX.out.keep (World.block_lt_of_cell? _ _ cp) cp
    have HDS:=Lh (drop_sum (fun p=>cntS (versS PS p (askF 2 0 []))) Q i hlt)
    have hql:=HPP.out Q[i] (List.getElem_mem hlt)
    obtain⟨q,hq⟩:∃q,Q[i]=q:=⟨_,rfl⟩
    rw[hq]at cp HDS hql
    clear hq
    obtain⟨wo,hwo⟩:∃wo,wo=wr:=⟨_,rfl⟩
    subst hwo
    have HP1:=Lh (HC.out q hql wo (HX7.out.trans HX.out))
    clear hql
    go_wp2_with fail
    refine HP1.out.mono ?_
    rintro e w8 ⟨⟨sv,rfl,hsv⟩,hX8⟩
    have HC1:=Lh (count_any _ (HK.out q) _ _ w8 hsv)
    obtain⟨C,hC⟩:∃C,cntS (versS PS q (askF 2 0 []))=C:=⟨_,rfl⟩
    have hC':cntS (spansOf (flOf (versR PS q (askF 2 0 []))))=C:=hC
    rw[hC']at HC1
    have hC0:0≤C∧C≤201:=by have:=cntS_le _ 1 kA (HK.out q);rw[hC']at this;omega
    have hSC:S+C≤1000000:=by
     have h1:=HI2.out
     rw[HDS.out]at h1
     have h2:=sum_nn (fun p=>cntS (versS PS p (askF 2 0 []))) (fun p=>(cntS_le _ 1 kA (HK.out p)).1) (Q.drop (i+1))
     simp only[hC]at h1
     omega
    have HI3:Hid (S+C+((Q.drop (i+1)).map fun p=>cntS (versS PS p (askF 2 0 []))).sum=(NR:Int)):=Lh (by rw[←HI2.out,HDS.out];simp only[hC];omega)
    have HX8:=Lh hX8
    clear hsv hX8 hC hC' HDS HI2 HP1
    go_wp2_with fail
    refine HC1.out.mono ?_
    rintro e w9 ⟨rfl,hX9⟩
    have HX9:=Lh ((HX.out.trans HX8.out).trans hX9)
    clear hX9 HC1
    go_wp2_with fail
    go_roundw
    case rel=>exact⟨i+1,S+C,by go_num,by go_num,by omega,by omega,HX9,HI3⟩
    case measure=>exact mZ
   ·
    have hlI:¬(i:Int)< (Q.length:Int):=by omega
    have hSN:S=(NR:Int):=by
     have h1:=HI2.out
     rw[List.drop_eq_nil_of_le kA]at h1
     simpa using h1
    subst hSN
    have HS1:=Lh (HSZ.out wr (HX7.out.trans HX.out))
    clear HI2 HSZ
    go_wp2_with fail
    refine HS1.out.mono ?_
    rintro e w8 ⟨rfl,hX8⟩
    have HF:=Lh (HXW.out.trans ((HX7.out.trans HX.out).trans hX8))
    clear hX8 HS1
    go_wp2_with fail
    go_ret
    exact⟨rfl,HF.out⟩
end Go.Proofs.YtngmgjodcnknoaaGreatDoor
