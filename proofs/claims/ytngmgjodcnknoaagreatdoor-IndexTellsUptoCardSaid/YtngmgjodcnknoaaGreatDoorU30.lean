/-
 The archive of documents is fit for an index;its rows are those of the documents' tables. Helper lemmas;no statement of the seat is proved here.
-/
import Derived.Test.YtngmgjodcnknoaaGreatDoorU29
namespace Go.Proofs.YtngmgjodcnknoaaGreatDoor
open Go.RowKit
set_option maxHeartbeats 32000000
set_option maxRecDepth 100000
set_option linter.unusedVariables false
set_option linter.unusedSimpArgs false
theorem nf_wf {l:List Rule} {nm:Bytes} {ks:List Bytes} {rs:List Rule} (hl:l=⟨[nm],ks⟩::rs) {n:Node} (h:NForm2 l n):wfN l n [nm]∧wtN l n [nm]∧n.name=nm:=by
 have ht:=nform_wt hl h.to
 obtain⟨a,nm',ks',rs',hm,hl',hk,hn,hc,he,h1,h2⟩:=h
 have e:nm'=nm:=by rw[hl]at hl';simp at hl';exact hl'.1.1.symm
 subst e
 obtain⟨w1,w2⟩:=norm_wf l a [nm'] 0 hk hc
 rw[←he]at w1 w2
 exact⟨w1,ht,by rw[w2];exact hn⟩
theorem nf_doc {l:List Rule} {nm:Bytes} {ks:List Bytes} {rs:List Rule} (hl:l=⟨[nm],ks⟩::rs) (hk:∀r∈l,r.keys.length≤3000) {n:Node} (h:NForm2 l n):DocOk l n∧nsz n≤1200∧∀r∈rowsD l n ([47]++n.name) [n.name],RowB r:=by
 have hc:=h.cnt
 have hs:=nsz_cnt n
 have hn:=cnt_name n
 obtain⟨w1,w2,w3⟩:=nf_wf hl h
 have hb:=rowsD_b l hk n ([47]++n.name) [n.name] hc (nform_fair h.to) (by
  have h1:nsz n*90000000≤1200*90000000:=Nat.mul_le_mul_right _ (by omega)
  simp only[List.length_append,List.length_cons,List.length_nil]
  omega)
 have hr:=rowsD_cnt l n ([47]++n.name) [n.name]
 exact⟨⟨by rw[w3];exact w1,by omega,by omega,fun r hr=>(hb r hr).1⟩,by omega,hb⟩
def psK:List (List R4)→Nat→List IR
 | [],_=> []
 | t::r,i=>t.map (fun x=>(((i:Int)+1,x):IR))++psK r (i+1)
theorem psT_k:∀(T:List (List QN)) (i:Nat),psT T i=psK (T.map (·.map k4)) i
 | [],_=>rfl
 | t::r,i=>by
  rw[psT,List.map_cons,psK,psT_k r (i+1),List.map_map];rfl
theorem psK_snoc:∀(a:List (List R4)) (t:List R4) (i:Nat),psK (a++ [t]) i=psK a i++t.map (fun x=>((((i+a.length:Nat):Int)+1,x):IR))
 | [],t,i=>by simp[psK]
 | b::a,t,i=>by
  rw[List.cons_append,psK,psK_snoc a t (i+1),psK,List.append_assoc,List.length_cons]
  congr 3
  funext x
  congr 2
  omega
section
variable {l:List Rule} {nm:Bytes} {ks:List Bytes} {rs:List Rule} {ds:List Node}
theorem rows_root (hl:l=⟨[nm],ks⟩::rs) (hd:∀d∈ds,NForm2 l d) (h12:ds.length≤12) (i:Nat) (hi:i< ds.length):
  rowsA ((i:Int)+1) (rootP l nm ds) []=rowsD l ds[i] ([47]++ds[i].name) [ds[i].name]∧ahas (rootP l nm ds).vers ((i:Int)+1)=true:=by
 have hne:ds≠ []:=fun e=>by rw[e]at hi;exact absurd hi (Nat.not_lt_zero _)
 have hw:=fun d hm=>nf_wf hl (hd d hm)
 have hH:=held_all hw (by omega)
 have hmem:=heldsOf_k ds 0 i hi
 rw[Nat.zero_add]at hmem
 have hnm:ds[i].name=nm:=(hw _ (List.getElem_mem hi)).2.2
 unfold rootP
 rw[if_neg hne]
 constructor
 ·
  have h:=rows_held l (nszL ds+1) [nm] ⟨nm,[]⟩ (heldsOf ds 0) [] (by simp) hH (fun h hm=>nform_fair (hd _ (heldsOf_mem ds 0 h hm).1).to) _ hmem []
  rw[h,hnm];rfl
 ·
  rw[nodeP_vers]
  have hv:∀h∈heldsOf ds 0,1≤h.v∧h.v≤200:=fun h hm=>by
   obtain⟨_,b,c⟩:=heldsOf_mem ds 0 h hm
   omega
  have hane:ownV (heldsOf ds 0)≠ []:=ownV_ne _ (List.ne_nil_of_mem hmem) hv
  unfold versV
  rw[if_neg fun e=>hane ((spansS_iff _ _).1 e)]
  unfold ahas
  rw[if_neg fun e=>hane (List.eq_nil_of_length_eq_zero e)]
  have:=hasV_of ((heldsOf ds 0).map (·.v)) ((i:Int)+1) (by omega) (by omega)
  rw[decide_eq_true (List.mem_map.2 ⟨_,hmem,rfl⟩)]at this
  exact this
theorem ar_ok (hl:l=⟨[nm],ks⟩::rs) (hk:∀r∈l,r.keys.length≤3000) (hd:∀d∈ds,NForm2 l d) (h12:ds.length≤12) (hlen:∀d∈ds,(tabD l d).length≤100):ArOk (rootP l nm ds) ds.length:=by
 refine⟨h12,fun i hi=>(rows_root hl hd h12 i hi).2,fun i hi r hr=> ?_,fun i hi=> ?_⟩
 ·
  rw[(rows_root hl hd h12 i hi).1]at hr
  have:=(nf_doc hl hk (hd _ (List.getElem_mem hi))).2.2 r hr
  exact⟨this.1,this.2.1,by have:=this.2.2;omega⟩
 ·
  rw[(rows_root hl hd h12 i hi).1]
  have:=hlen _ (List.getElem_mem hi)
  unfold tabD at this
  rw[List.length_cons]at this
  omega
theorem psA_K (hl:l=⟨[nm],ks⟩::rs) (hd:∀d∈ds,NForm2 l d) (h12:ds.length≤12):∀k,k≤ds.length→psA (rootP l nm ds) k=psK ((ds.take k).map (tabD l)) 0
 | 0,_=>rfl
 | k+1,h=>by
  rw[psA,psA_K hl hd h12 k (by omega),List.take_succ_eq_append_getElem (by omega),List.map_append,List.map_cons,List.map_nil,psK_snoc,List.length_map,List.length_take,Nat.zero_add,Nat.min_eq_left (by omega)]
  unfold tabA
  rw[(rows_root hl hd h12 k (by omega)).1];rfl
theorem psA_T (hl:l=⟨[nm],ks⟩::rs) (hd:∀d∈ds,NForm2 l d) (h12:ds.length≤12) (T:List (List QN)) (hT:T.map (·.map k4)=ds.map (tabD l)):psA (rootP l nm ds) ds.length=psT T 0:=by
 rw[psA_K hl hd h12 _ (Nat.le_refl _),List.take_length,psT_k,hT]
theorem psA_b {n:ANode} {N:Nat} (h:ArOk n N):∀k,k≤N→∀x∈psA n k,(1≤x.1∧x.1≤12)∧((rowM x).2.1.length≤1048576∧(rowM x).2.2.length≤1048576)∧(rowP x).length≤1000000000000
 | 0,_,x,hx=>by cases hx
 | k+1,hk,x,hx=>by
  rw[psA]at hx
  rcases List.mem_append.1 hx with hx | hx
  ·
   exact psA_b h k (by omega) x hx
  ·
   unfold tabA at hx
   obtain⟨r,hr,rfl⟩:=List.mem_map.1 hx
   have:=h.few
   refine⟨by simp only;omega,?_⟩
   rcases List.mem_cons.1 hr with e | hr
   ·
    rw[e];exact⟨⟨Nat.zero_le _,Nat.zero_le _⟩,show(1:Nat)≤1000000000000 by decide⟩
   ·
    obtain⟨⟨h1,h2,h3⟩,_⟩:=h.ok k (by omega) r hr
    exact⟨⟨h1,h2⟩,h3⟩
end
theorem szStrI:∀W,(sizeOf (Tryz.prog.elem 27)).run Tryz.prog W= .ok 1 W:=fun W=>by rw[show Tryz.prog.elem 27=9 by kernel_rfl];go_simp
theorem unStrI:Tryz.prog.underlying 27=some (.slice (Tryz.prog.elem 27)):=by kernel_rfl
theorem psT_len:∀(T:List (List QN)) (i:Nat),(∀t∈T,t.length≤1000)→(psT T i).length≤1000*T.length
 | [],_,_=>Nat.le_refl _
 | t::r,i,h=>by
  have h1:=psT_len r (i+1) fun t ht=>h t (List.mem_cons_of_mem _ ht)
  have h2:=h t List.mem_cons_self
  rw[psT,List.length_append,List.length_map,List.length_cons]
  omega
theorem insP_lt:∀(L:List Bytes) (p:Bytes) (k:Nat),k≤L.length→(∀(j:Nat) (h:j< L.length),j< k→lessB L[j] p=true)→(∀h:k< L.length,lessB L[k] p=false∧L[k]≠p)→insP L p=L.take k++p::L.drop k
 | [],p,k,h,_,_=>by
  obtain rfl:k=0:=by simpa using h
  rfl
 | a::r,p,0,_,_,h=>by
  obtain⟨h1,h2⟩:=h (by simp)
  unfold insP
  rw[if_neg (by rw[show lessB a p=false from h1];decide),if_neg (show¬a=p from h2)];rfl
 | a::r,p,k+1,hk,hl,h=>by
  have h0:=hl 0 (by simp) (by omega)
  unfold insP
  rw[if_pos (by exact h0),insP_lt r p k (by simpa using hk) (fun j hj hjk=>hl (j+1) (by simpa using hj) (by omega)) (fun hj=>h (by simpa using hj))]
  rfl
theorem insP_eq:∀(L:List Bytes) (p:Bytes) (k:Nat) (hk:k< L.length),(∀(j:Nat) (h:j< L.length),j< k→lessB L[j] p=true)→L[k]=p→lessB L[k] p=false→insP L p=L
 | a::r,p,0,_,_,e,h=>by
  unfold insP
  rw[if_neg (by rw[show lessB a p=false from h];decide),if_pos (by exact e)]
 | a::r,p,k+1,hk,hl,e,h=>by
  have h0:=hl 0 (by simp) (by omega)
  unfold insP
  rw[if_pos (by exact h0),insP_eq r p k (by simpa using hk) (fun j hj hjk=>hl (j+1) (by simpa using hj) (by omega)) (by simpa using e) (by simpa using h)]
theorem rpaths_any (T:List (List QN)) (hT:T.length≤1000) (hTl:∀t∈T,t.length≤1000) (hok:∀t∈T,∀q∈t,ok4 (k4 q)) (p:Nat→Prop) (vt:Value) (w:World) (hvt:Rep w p vt (tabsD T)):
  Calls Tryz.prog 9 #[vt] w fun e w'=>(∃rv,e= .returned (.tuple #[rv,.int .i64 (psT T 0).length])∧w'.ownsRow w.heap.size 9 1 rv (pathsL (psT T 0)).length ((pathsL (psT T 0)).map fun x=> .string (bs x)))∧Ext w w':=by
 obtain⟨ta,tc,rfl,_,_⟩:=hvt.count z_tab (by omega)
 obtain⟨j0,ji,jz0,jz1,jz2⟩:=info_parts infoString
 have hNb:=psT_len T 0 hTl
 obtain⟨R,hR⟩:∃R,pathsL (psT T 0)=R:=⟨_,rfl⟩
 obtain⟨N,hN⟩:∃N,(psT T 0).length=N:=⟨_,rfl⟩
 have H0:Hid ((psT (T.drop 0) 0).foldl (fun L x=>insP L (rowP x)) []=R∧0+(psT (T.drop 0) 0).length=N):=Lh (by rw[List.drop_zero,Nat.zero_add];exact⟨hR,hN⟩)
 rw[hR,hN]
 rw[hN]at hNb
 have hNb:N≤1000000:=by omega
 have HNB:=Lh hNb
 have HV:=Lh (And.intro hvt (And.intro hTl hok))
 clear hR hN hvt hTl hok hNb
 go_enter Tryz.func9,Tryz.ntmps9
 go_wp2_with fail
 go_loopw [4,5,6] (fun o c t wr=>∃(v cnt:Nat) (L:List Bytes),t= .int .i64 v∧v≤T.length∧c= .int .i64 cnt∧L.length≤v*1000∧Hid (wr.ownsRow w.heap.size 9 1 o L.length (L.map fun x=>Value.string (bs x))∧(psT (T.drop v) v).foldl (fun L x=>insP L (rowP x)) L=R∧cnt+(psT (T.drop v) v).length=N∧Ext w wr∧∀x∈L,x.length≤1000000000000)) (fun _ _ t _=>downV T.length t)
 case atStart=>exact⟨0,0,[],rfl,Nat.zero_le _,rfl,Nat.zero_le _,Lh ⟨World.ownsRow_nil _ _ _ _,H0.out.1,H0.out.2,Ext.refl _,fun x hx=>by cases hx⟩⟩
 case round=>
  clear H0
  obtain⟨v,cnt0,L0,rfl,hv,rfl,hL0,HI⟩:=hrel
  have hv0:(0:Int)≤(v:Int):=by omega
  obtain⟨wo,hwo⟩:∃wo,wo=wr:=⟨_,rfl⟩
  subst hwo
  obtain⟨ob,od,rfl⟩:=own_slice HI.out.1
  by_cases hlt:v< T.length
  ·
   have hlI:(v:Int)< (T.length:Int):=by omega
   obtain⟨gt,ot,ut,hgt,lgt,ct,hut⟩:=tab_at (HV.out.1) v hlt
   subst hgt
   have hq:=HV.out.2.2 _ (List.getElem_mem hlt)
   have hml:=HV.out.2.1 _ (List.getElem_mem hlt)
   have hdr:psT (T.drop v) v=rowsI T[v] v++psT (T.drop (v+1)) (v+1):=by rw[drop_one T v hlt];rfl
   obtain⟨M,hM⟩:∃M,T[v]=M:=⟨_,rfl⟩
   rw[hM]at hut hq hml hdr
   obtain⟨ma,mc,rfl,_,_⟩:=hut.count z_qn (by omega)
   have hHI:=HI.out
   rw[hdr]at hHI
   have H1:Hid (wo.ownsRow w.heap.size 9 1 (.slice ob L0.length od) L0.length (L0.map fun x=>Value.string (bs x))∧(rowsI (M.drop 0) v++psT (T.drop (v+1)) (v+1)).foldl (fun L x=>insP L (rowP x)) L0=R∧cnt0+(rowsI (M.drop 0) v++psT (T.drop (v+1)) (v+1)).length=N∧Ext w wo∧∀x∈L0,x.length≤1000000000000):=Lh hHI
   have HM:=Lh (And.intro hut (And.intro hq (And.intro ct lgt)))
   clear hM hdr hq hut HI hHI ct
   go_wp2_with fail
   go_loopw [4,5,7] (fun o c t wr=>∃(i cnt:Nat) (L:List Bytes),t= .int .i64 i∧i≤M.length∧c= .int .i64 cnt∧L.length≤v*1000+i∧Hid (wr.ownsRow w.heap.size 9 1 o L.length (L.map fun x=>Value.string (bs x))∧(rowsI (M.drop i) v++psT (T.drop (v+1)) (v+1)).foldl (fun L x=>insP L (rowP x)) L=R∧cnt+(rowsI (M.drop i) v++psT (T.drop (v+1)) (v+1)).length=N∧Ext w wr∧∀x∈L,x.length≤1000000000000)) (fun _ _ t _=>downV M.length t)
   case atStart=>exact⟨0,cnt0,L0,rfl,Nat.zero_le _,rfl,by omega,H1⟩
   case round=>
    clear H1 hL0
    obtain⟨i,cnt,L,rfl,hi,rfl,hL,HJ⟩:=hrel
    have hi0:(0:Int)≤(i:Int):=by omega
    obtain⟨wq,hwq⟩:∃wq,wq=wr:=⟨_,rfl⟩
    subst hwq
    obtain⟨oa,oc,rfl⟩:=own_slice HJ.out.1
    have ct':=HJ.out.2.2.2.1.keep HM.out.2.2.2 HM.out.2.2.1
    by_cases hit:i< M.length
    ·
     have hiI:(i:Int)< (M.length:Int):=by omega
     obtain⟨gm,om,hgm,lgm,d0,d1,d2,d3,d4,d5⟩:=qnx_at (HM.out.1.ext HJ.out.2.2.2.1) i hit
     subst hgm
     have hok1:=HM.out.2.1 _ (List.getElem_mem hit)
     have hst:rowsI (M.drop i) v++psT (T.drop (v+1)) (v+1)=(((v:Int)+1,k4 M[i]):IR)::(rowsI (M.drop (i+1)) v++psT (T.drop (v+1)) (v+1)):=by rw[drop_one M i hit];rfl
     have hpl:M[i].path.length≤1000000000000:=hok1.2.2
     have hJ:=HJ.out
     rw[hst,List.foldl_cons,List.length_cons,show rowP ((((v:Int)+1,k4 M[i]):IR))=M[i].path from rfl]at hJ
     obtain⟨p,hp⟩:∃p,M[i].path=p:=⟨_,rfl⟩
     rw[hp]at d5 hpl hJ
     have HNX:Hid ((rowsI (M.drop (i+1)) v++psT (T.drop (v+1)) (v+1)).foldl (fun L x=>insP L (rowP x)) (insP L p)=R∧cnt+1+(rowsI (M.drop (i+1)) v++psT (T.drop (v+1)) (v+1)).length=N):=Lh ⟨hJ.2.1,by have:=hJ.2.2.1;omega⟩
     have HLO:=Lh hJ.2.2.2.2
     have HOJ:=Lh (And.intro hJ.1 hJ.2.2.2.1)
     have hcb:(cnt:Int)≤100000000:=by
      have:=HNX.out.2
      have:=HNB.out
      omega
     have hw1:IntKind.i64.wrap ((cnt:Int)+1)=(cnt:Int)+1:=IntWalk.i64_in _ (by omega)
     clear hp hok1 hst hJ HJ d0 d1 d2 d3 d4
     go_wp2_with fail
     clear d5 ct'
     go_loopw [9] (fun t wr=>∃k:Nat,t= .int .i64 k∧k≤L.length∧Hid (∀(j:Nat) (h:j< L.length),j< k→lessB L[j] p=true)∧Hid (Ext wq wr)) (fun t _=>downV L.length t)
     case atStart=>exact⟨0,rfl,Nat.zero_le _,Lh fun j _ h=>absurd h (Nat.not_lt_zero _),Lh (Ext.refl _)⟩
     case round=>
      obtain⟨k,rfl,hk,HK,HX⟩:=hrel
      have hk0:(0:Int)≤(k:Int):=by omega
      obtain⟨wi,hwi⟩:∃wi,wi=wr:=⟨_,rfl⟩
      subst hwi
      have hLb:(L.length:Int)≤2000000:=by omega
      by_cases hkl:k< L.length
      ·
       have hkI:(k:Int)< (L.length:Int):=by omega
       obtain⟨gs,gc,hsl,hgl,hcs⟩:=own_str_at (rows_ext HOJ.out.1 HX.out) k hkl
       cases hsl
       have hql:=HLO.out _ (List.getElem_mem hkl)
       have HLS:=Lh (lessb_any L[k] p wi (by omega) (by omega))
       have HKS:=HK.out
       obtain⟨x,hx⟩:∃x,L[k]=x:=⟨_,rfl⟩
       have HXX:=Lh hx
       rw[hx]at hcs HLS
       clear hx hql
       go_wp2_with fail
       refine HLS.out.mono ?_
       rintro e w3 ⟨rfl,hX3⟩
       obtain⟨b,hb⟩:∃b,lessB x p=b:=⟨_,rfl⟩
       rw[hb]
       have HB:=Lh hb
       have hcs3:=hX3.keep hgl hcs
       have HX3:=Lh hX3
       clear hb hX3 HLS hcs
       cases b with
       | true=>
        have HK2:Hid (∀(j:Nat) (h:j< L.length),j< k+1→lessB L[j] p=true):=Lh fun j hj hjk=>by
         by_cases e:j=k
         ·
          subst e;rw[HXX.out];exact HB.out
         ·
          exact HKS j hj (by omega)
        have HX4:=Lh (HX.out.trans HX3.out)
        clear HKS
        go_wp2_with fail
        go_roundw
        case rel=>exact⟨k+1,by go_num,by omega,HK2,HX4⟩
        case measure=>simp only[downV];omega
       | false=>
        have hkne:((k:Int)==(L.length:Int))=false:=beq_eq_false_iff_ne.2 (by omega)
        by_cases hxp:x=p
        ·
         have hIE:insP L p=L:=insP_eq L p k hkl HKS (HXX.out.trans hxp) (by rw[HXX.out];exact HB.out)
         have hHN:=HNX.out
         rw[hIE]at hHN
         have HF:=Lh (And.intro (rows_ext HOJ.out.1 (HX.out.trans HX3.out)) (And.intro hHN.1 (And.intro hHN.2 (And.intro (HOJ.out.2.trans (HX.out.trans HX3.out)) HLO.out))))
         clear hIE hHN HKS
         subst hxp
         go_wp2_with fail
         go_roundw
         case rel=>exact⟨i+1,cnt+1,L,by go_num,by omega,by go_num,by omega,HF⟩
         case measure=>simp only[downV];omega
        ·
         have hxq:((bs x).toList !=(bs p).toList)=true:=by
          rw[bs_toList,bs_toList,bne_iff_ne];exact hxp
         have hxq2:((bs x).toList==(bs p).toList)=false:=by rw[bs_eqv];exact beq_eq_false_iff_ne.2 hxp
         have hxq3:¬(bs x).toList=(bs p).toList:=by rw[bs_toList,bs_toList];exact hxp
         have HIN:Hid (insP L p=L.take k++p::L.drop k):=Lh (insP_lt L p k hk HKS fun _=>by rw[HXX.out];exact⟨HB.out,hxp⟩)
         have HOI:Hid (w3.ownsRow w.heap.size 9 1 (.slice (some ⟨gs,0,none⟩) L.length oc) L.length (L.map fun x=>Value.string (bs x))∧Ext w w3):=Lh ⟨rows_ext HOJ.out.1 (HX.out.trans HX3.out),HOJ.out.2.trans (HX.out.trans HX3.out)⟩
         clear hxp HKS
         go_wp2_with fail
         clear hcs3
         obtain⟨oa,hoa⟩:∃a,some (⟨gs,0,none⟩:Addr)=a:=⟨_,rfl⟩
         rw[hoa]at HOI⊢
         obtain⟨wi,hwi⟩:∃W,W=w3:=⟨_,rfl⟩
         rw[←hwi]at HOI⊢
         clear hoa hwi
         obtain⟨us,hus⟩:∃us:List Value,L.map (fun x=>Value.string (bs x))=us:=⟨_,rfl⟩
         have hown:=HOI.out.1
         rw[hus]at hown
         obtain⟨vt,hvt,evt⟩:=src_take hown unStrI szStrI k hk
         obtain⟨vd,hvd,evd⟩:=src_drop hown unStrI szStrI k hk
         have h1u:∀u∈us,u.oneCell'=true:=fun u hu=>by
          rw[←hus]at hu
          obtain⟨x,_,rfl⟩:=List.mem_map.1 hu
          rfl
         have HUS:=Lh hus
         clear hus hown
         refine rg_begin (S:=Sx wi) (by kernel_rfl) (Sx.begin _) ?_
         have hSs:Sx wi (World.drew wi):=(Sx.begin _)
         refine rg_t 1 (some 62) (.slice oa L.length oc) rfl hSs (fun w' hs=>by rfl) ?_
         simp only[Act.put,sA,sZ,sS]
         refine rg_t 2 (some 63) (.int .i64 k) rfl hSs (fun w' hs=>by rfl) ?_
         simp only[Act.put,sA,sZ,sS]
         refine rg_t 3 (some 64) (vt) rfl hSs (fun w' hs=>by exact exec_slice rfl (evt w')) ?_
         simp only[Act.put,sA,sZ,sS]
         refine rg_t 5 (some 66) (.string (bs p)) rfl hSs (fun w' hs=>by rfl) ?_
         simp only[Act.put,sA,sZ,sS]
         refine rg_t 8 (some 69) (.slice oa L.length oc) rfl hSs (fun w' hs=>by rfl) ?_
         simp only[Act.put,sA,sZ,sS]
         refine rg_t 9 (some 70) (.int .i64 k) rfl hSs (fun w' hs=>by rfl) ?_
         simp only[Act.put,sA,sZ,sS]
         refine rg_t 10 (some 71) (vd) rfl hSs (fun w' hs=>by exact exec_slice rfl (evd w')) ?_
         simp only[Act.put,sA,sZ,sS]
         refine rg_row 0 6 4 7 61 67 65 68 64 66 27 9 j0 (.string ⟨#[]⟩) 1 16 rfl rfl rfl rfl Tryz.underlying27 ji jz0 jz1 jz2 rfl (by decide) (.string (bs p)) (vt) [.string (bs p)] ((us.take (k*1))) (k) rfl rfl (hvt.ext hSs) (fun u hu=>h1u u (List.mem_of_mem_take hu)) (by intro u hu;simp at hu;subst hu;rfl) rfl (by omega) (by decide) (fun w' h=>hSs.ext h) (fun ev W=>by first | rfl | go_simp) (fun ev W hK hX=>by first | rfl | go_simp) ?_
         intro gas gbs v2s v3s wxs hEs hrs hSs
         simp only[Act.put,sA,sZ,sS]
         have hrs:=(show World.ownsRow wxs wi.heap.size _ _ _ _ _ from hrs)
         refine rg_one 11 (by kernel_rfl) ?_
         refine tk_src 11 (some 72) rfl rfl (by rfl) (.tmp 68) (.tmp 71) 27 rfl wi.heap.size 9 j0 (.string ⟨#[]⟩) 1 16 Tryz.underlying27 ji jz0 jz1 jz2 rfl (by decide) v3s (k+1) ((us.take (k*1))++([.string (bs p)]:List Value)) rfl hrs vd (L.length - k) (us.drop (k*1)) rfl (hvd.ext (show Ext wi wxs from hSs)) (fun u hu=>h1u u (List.mem_of_mem_drop hu)) (by unfold maxLen;omega) (by omega) (show Ext wi wxs from hSs).size ?_
         intro v4s w12 hr12 hg4s ha4s
         have hS12:Sx wi w12:=sx_grown hSs hrs hg4s
         refine⟨hS12,?_⟩
         simp only[Act.put,sA,sZ,sS]
         clear hrs hSs hEs hg4s ha4s
         refine rg_t 12 (some 4) (v4s) rfl hS12 (fun w' hs=>by rfl) ?_
         simp only[Act.put,sA,sZ,sS]
         refine rg_done (by kernel_rfl) ?_
         have HF:Hid (w12.ownsRow w.heap.size 9 1 v4s (insP L p).length ((insP L p).map fun x=>Value.string (bs x))∧Ext w w12):=Lh (by
          have hE12:Ext wi w12:=hS12
          refine⟨?_,HOI.out.2.trans hE12⟩
          have h1:=rows_low (show w12.ownsRow wi.heap.size 9 1 v4s (k+1+(L.length - k)) (us.take (k*1)++([.string (bs p)]:List Value)++us.drop (k*1)) from hr12) HOI.out.2.size
          have e1:(insP L p).length=k+1+(L.length - k):=by rw[HIN.out,List.length_append,List.length_take,List.length_cons,List.length_drop];omega
          have e2:((insP L p).map fun x=>Value.string (bs x))=us.take (k*1)++([.string (bs p)]:List Value)++us.drop (k*1):=by
           rw[HIN.out,←HUS.out,Nat.mul_one,List.map_append,List.map_cons,List.map_take,List.map_drop,List.append_assoc];rfl
          rw[e1,e2]
          exact h1)
         obtain⟨fa,fc,rfl⟩:=own_slice HF.out.1
         have HN:Hid ((rowsI (M.drop (i+1)) v++psT (T.drop (v+1)) (v+1)).foldl (fun L x=>insP L (rowP x)) (insP L p)=R∧cnt+1+(rowsI (M.drop (i+1)) v++psT (T.drop (v+1)) (v+1)).length=N):=HNX
         have hL9:(insP L p).length≤v*1000+(i+1):=by
          have e1:(insP L p).length=k+1+(L.length - k):=by rw[HIN.out,List.length_append,List.length_take,List.length_cons,List.length_drop];omega
          omega
         have hok9:Hid (∀x∈insP L p,x.length≤1000000000000):=Lh fun x hx=>by
          rcases (mem_insP L p x).1 hx with e | hx
          ·
           rw[e];exact hpl
          ·
           exact HLO.out x hx
         clear hr12 hS12 hvt evt hvd evd h1u
         go_wp2_with fail
         go_roundw
         case rel=>exact⟨i+1,cnt+1,insP L p,by go_num,by omega,by go_num,hL9,Lh ⟨HF.out.1,HN.out.1,HN.out.2,HF.out.2,hok9.out⟩⟩
         case measure=>simp only[downV];omega
      ·
       have hkI:¬(k:Int)< (L.length:Int):=by omega
       have hke:((k:Int)==(L.length:Int))=true:=beq_iff_eq.2 (by omega)
       have HIN:Hid (insP L p=L.take k++p::L.drop k):=Lh (insP_lt L p k hk HK.out fun h=>absurd h hkl)
       have HOI:Hid (wi.ownsRow w.heap.size 9 1 (.slice oa L.length oc) L.length (L.map fun x=>Value.string (bs x))∧Ext w wi):=Lh ⟨rows_ext HOJ.out.1 HX.out,HOJ.out.2.trans HX.out⟩
       go_wp2_with fail
       obtain⟨us,hus⟩:∃us:List Value,L.map (fun x=>Value.string (bs x))=us:=⟨_,rfl⟩
       have hown:=HOI.out.1
       rw[hus]at hown
       obtain⟨vt,hvt,evt⟩:=src_take hown unStrI szStrI k hk
       obtain⟨vd,hvd,evd⟩:=src_drop hown unStrI szStrI k hk
       have h1u:∀u∈us,u.oneCell'=true:=fun u hu=>by
        rw[←hus]at hu
        obtain⟨x,_,rfl⟩:=List.mem_map.1 hu
        rfl
       have HUS:=Lh hus
       clear hus hown
       refine rg_begin (S:=Sx wi) (by kernel_rfl) (Sx.begin _) ?_
       have hSs:Sx wi (World.drew wi):=(Sx.begin _)
       refine rg_t 1 (some 62) (.slice oa L.length oc) rfl hSs (fun w' hs=>by rfl) ?_
       simp only[Act.put,sA,sZ,sS]
       refine rg_t 2 (some 63) (.int .i64 k) rfl hSs (fun w' hs=>by rfl) ?_
       simp only[Act.put,sA,sZ,sS]
       refine rg_t 3 (some 64) (vt) rfl hSs (fun w' hs=>by exact exec_slice rfl (evt w')) ?_
       simp only[Act.put,sA,sZ,sS]
       refine rg_t 5 (some 66) (.string (bs p)) rfl hSs (fun w' hs=>by rfl) ?_
       simp only[Act.put,sA,sZ,sS]
       refine rg_t 8 (some 69) (.slice oa L.length oc) rfl hSs (fun w' hs=>by rfl) ?_
       simp only[Act.put,sA,sZ,sS]
       refine rg_t 9 (some 70) (.int .i64 k) rfl hSs (fun w' hs=>by rfl) ?_
       simp only[Act.put,sA,sZ,sS]
       refine rg_t 10 (some 71) (vd) rfl hSs (fun w' hs=>by exact exec_slice rfl (evd w')) ?_
       simp only[Act.put,sA,sZ,sS]
       refine rg_row 0 6 4 7 61 67 65 68 64 66 27 9 j0 (.string ⟨#[]⟩) 1 16 rfl rfl rfl rfl Tryz.underlying27 ji jz0 jz1 jz2 rfl (by decide) (.string (bs p)) (vt) [.string (bs p)] ((us.take (k*1))) (k) rfl rfl (hvt.ext hSs) (fun u hu=>h1u u (List.mem_of_mem_take hu)) (by intro u hu;simp at hu;subst hu;rfl) rfl (by omega) (by decide) (fun w' h=>hSs.ext h) (fun ev W=>by first | rfl | go_simp) (fun ev W hK hX=>by first | rfl | go_simp) ?_
       intro gas gbs v2s v3s wxs hEs hrs hSs
       simp only[Act.put,sA,sZ,sS]
       have hrs:=(show World.ownsRow wxs wi.heap.size _ _ _ _ _ from hrs)
       refine rg_one 11 (by kernel_rfl) ?_
       refine tk_src 11 (some 72) rfl rfl (by rfl) (.tmp 68) (.tmp 71) 27 rfl wi.heap.size 9 j0 (.string ⟨#[]⟩) 1 16 Tryz.underlying27 ji jz0 jz1 jz2 rfl (by decide) v3s (k+1) ((us.take (k*1))++([.string (bs p)]:List Value)) rfl hrs vd (L.length - k) (us.drop (k*1)) rfl (hvd.ext (show Ext wi wxs from hSs)) (fun u hu=>h1u u (List.mem_of_mem_drop hu)) (by unfold maxLen;omega) (by omega) (show Ext wi wxs from hSs).size ?_
       intro v4s w12 hr12 hg4s ha4s
       have hS12:Sx wi w12:=sx_grown hSs hrs hg4s
       refine⟨hS12,?_⟩
       simp only[Act.put,sA,sZ,sS]
       clear hrs hSs hEs hg4s ha4s
       refine rg_t 12 (some 4) (v4s) rfl hS12 (fun w' hs=>by rfl) ?_
       simp only[Act.put,sA,sZ,sS]
       refine rg_done (by kernel_rfl) ?_
       have HF:Hid (w12.ownsRow w.heap.size 9 1 v4s (insP L p).length ((insP L p).map fun x=>Value.string (bs x))∧Ext w w12):=Lh (by
        have hE12:Ext wi w12:=hS12
        refine⟨?_,HOI.out.2.trans hE12⟩
        have h1:=rows_low (show w12.ownsRow wi.heap.size 9 1 v4s (k+1+(L.length - k)) (us.take (k*1)++([.string (bs p)]:List Value)++us.drop (k*1)) from hr12) HOI.out.2.size
        have e1:(insP L p).length=k+1+(L.length - k):=by rw[HIN.out,List.length_append,List.length_take,List.length_cons,List.length_drop];omega
        have e2:((insP L p).map fun x=>Value.string (bs x))=us.take (k*1)++([.string (bs p)]:List Value)++us.drop (k*1):=by
         rw[HIN.out,←HUS.out,Nat.mul_one,List.map_append,List.map_cons,List.map_take,List.map_drop,List.append_assoc];rfl
        rw[e1,e2]
        exact h1)
       obtain⟨fa,fc,rfl⟩:=own_slice HF.out.1
       have HN:Hid ((rowsI (M.drop (i+1)) v++psT (T.drop (v+1)) (v+1)).foldl (fun L x=>insP L (rowP x)) (insP L p)=R∧cnt+1+(rowsI (M.drop (i+1)) v++psT (T.drop (v+1)) (v+1)).length=N):=HNX
       have hL9:(insP L p).length≤v*1000+(i+1):=by
        have e1:(insP L p).length=k+1+(L.length - k):=by rw[HIN.out,List.length_append,List.length_take,List.length_cons,List.length_drop];omega
        omega
       have hok9:Hid (∀x∈insP L p,x.length≤1000000000000):=Lh fun x hx=>by
        rcases (mem_insP L p x).1 hx with e | hx
        ·
         rw[e];exact hpl
        ·
         exact HLO.out x hx
       clear hr12 hS12 hvt evt hvd evd h1u
       go_wp2_with fail
       go_roundw
       case rel=>exact⟨i+1,cnt+1,insP L p,by go_num,by omega,by go_num,hL9,Lh ⟨HF.out.1,HN.out.1,HN.out.2,HF.out.2,hok9.out⟩⟩
       case measure=>simp only[downV];omega
    ·
     have hiI:¬(i:Int)< (M.length:Int):=by omega
     have hJ:=HJ.out
     rw[List.drop_of_length_le (by omega),show rowsI [] v= [] from rfl,List.nil_append]at hJ
     have HF:=Lh hJ
     have hL4:L.length≤(v+1)*1000:=by omega
     clear hJ HJ
     go_wp2_with fail
     go_roundw
     case rel=>exact⟨v+1,cnt,L,by go_num,by omega,rfl,hL4,HF⟩
     case measure=>simp only[downV];omega
  ·
   have hlI:¬(v:Int)< (T.length:Int):=by omega
   have hI:=HI.out
   rw[List.drop_of_length_le (by omega),show psT [] v= [] from rfl]at hI
   have e1:L0=R:=hI.2.1
   have e2:cnt0=N:=hI.2.2.1
   subst e1 e2
   have HF:=Lh hI
   obtain⟨K,hK⟩:∃K,L0.length=K:=⟨_,rfl⟩
   have HKK:=Lh hK
   rw[hK]
   clear hI HI hK hL0
   go_wp2_with fail
   go_ret2
   exact⟨⟨_,rfl,by rw[←HKK.out];exact HF.out.1⟩,HF.out.2.2.2.1⟩
theorem psT_ok:∀(T:List (List QN)) (i:Nat),(∀t∈T,∀q∈t,ok4 (k4 q))→∀x∈psT T i,(rowP x).length≤1000000000000
 | [],_,_,x,h=>by cases h
 | t::r,i,hok,x,h=>by
  rw[psT]at h
  rcases List.mem_append.1 h with h | h
  ·
   obtain⟨q,hq,rfl⟩:=List.mem_map.1 h
   exact(hok t List.mem_cons_self q hq).2.2
  ·
   exact psT_ok r (i+1) (fun t ht=>hok t (List.mem_cons_of_mem _ ht)) x h
theorem exec_sne_same {ev:Operand→Value} {oi:Oper} {t u:TypeId} {x y:Operand} {s:ByteArray} (ho:oi.op= .binOp .neq t x y u) (hx:ev x= .string s) (hy:ev y= .string s) (W:World):(execOp ev oi).run Tryz.prog W= .ok (.value (.bool false)) W:=by
 simp only[execOp,ho,hx,hy];simp[go_sem]
theorem rtr_any (T:List (List QN)) (s:Bytes) (ask kind:Int) (hT:T.length≤1000) (hTl:∀t∈T,t.length≤1000) (hok:∀t∈T,∀q∈t,ok4 (k4 q)) (hs:s.length≤1000000000) (p:Nat→Prop) (vt:Value) (w:World) (hvt:Rep w p vt (tabsD T)):
  Calls Tryz.prog 13 #[vt,.int .i64 ask,.int .i64 kind,.string (bs s)] w fun e w'=>Ret (fun c=>w.heap.size≤c) (trcsD (tracesL (psT T 0) (askF ask kind s))) e w'∧Ext w w':=by
 have HP0:=Lh (rpaths_any T hT hTl hok p vt w hvt)
 have HVV:=Lh fun W (hE:Ext w W) p0=>rvers_any T p0 s ask kind hT hTl hok hs p vt W (hvt.ext hE)
 obtain⟨ta,tc,rfl,_,_⟩:=hvt.count z_tab (by omega)
 obtain⟨f,hf⟩:∃f,askF ask kind s=f:=⟨_,rfl⟩
 rw[hf]at HVV⊢
 obtain⟨PS,hPS⟩:∃PS,psT T 0=PS:=⟨_,rfl⟩
 have hPl:=psT_len T 0 hTl
 rw[hPS]at HP0 HVV hPl⊢
 obtain⟨P,hP⟩:∃P,pathsL PS=P:=⟨_,rfl⟩
 have hPn:P.length≤1000000:=by
  have hnd:P.Nodup:=by rw[←hP];exact(pathsL_lt PS).imp fun {a b} (h:a< b) (e:a=b)=>by subst e;exact List.lt_irrefl a h
  have:=List.Nodup.length_le_of_subset hnd (l₂:=PS.map rowP) fun q hq=>by
   rw[←hP]at hq
   obtain⟨x,hx,e⟩:=(mem_pathsL PS q).1 hq
   exact List.mem_map.2 ⟨x,hx,e⟩
  rw[List.length_map]at this
  omega
 have hPm:∀q∈P,q.length≤1000000000000:=fun q hq=>by
  rw[←hP]at hq
  obtain⟨x,hx,rfl⟩:=(mem_pathsL PS q).1 hq
  rw[←hPS]at hx
  exact psT_ok T 0 hok x hx
 rw[hP]at HP0
 obtain⟨R,hR⟩:∃R,tracesL PS f=R:=⟨_,rfl⟩
 have HT:Hid (P.filterMap (trF PS f)=R):=Lh (by rw[←hR,←hP];rfl)
 rw[hR]
 have HPM:=Lh hPm
 clear hf hPS hPl hP hR hvt hok hTl hPm
 go_enter Tryz.func13,Tryz.ntmps13
 go_wp2_with fail
 refine HP0.out.mono ?_
 rintro e w2 ⟨⟨rv,rfl,hrow⟩,hX2⟩
 obtain⟨da,dc,rfl⟩:=own_slice hrow
 have HX2:=Lh (And.intro hX2 hrow)
 clear hX2 hrow HP0
 go_wp2_with fail
 go_loopw [9,12] (fun o t wr=>∃i:Nat,t= .int .i64 i∧i≤P.length∧Hid (Own wr (fun c=>w.heap.size≤c) w2.heap.size 59 2 o ((P.take i).filterMap (trF PS f)).length (((P.take i).filterMap (trF PS f)).flatMap trcC)∧Ext w2 wr)) (fun _ t _=>downV P.length t)
 case atStart=>exact⟨0,rfl,Nat.zero_le _,Lh ⟨Own.nil _ _ _ _ _,Ext.refl _⟩⟩
 case round=>
  obtain⟨i,rfl,hi,HO⟩:=hrel
  have hi0:(0:Int)≤(i:Int):=by omega
  obtain⟨wo,hwo⟩:∃wo,wo=wr:=⟨_,rfl⟩
  subst hwo
  obtain⟨oa,oc,rfl,_,_⟩:=HO.out.1.form
  by_cases hlt:i< P.length
  ·
   have hlI:(i:Int)< (P.length:Int):=by omega
   obtain⟨gs,gc,hsl,hgl,hcs⟩:=own_str_at HX2.out.2 i hlt
   cases hsl
   have c1:=HO.out.2.keep hgl hcs
   have HST:=Lh (trF_step PS f P i hlt)
   have hpl:=HPM.out P[i] (List.getElem_mem hlt)
   obtain⟨p1,hp⟩:∃p,P[i]=p:=⟨_,rfl⟩
   rw[hp]at c1 HST hpl
   have hEo:=HX2.out.1.trans HO.out.2
   have HV:=Lh (HVV.out wo hEo p1)
   have HEO:=Lh hEo
   have HGC:=Lh (And.intro hgl hcs)
   clear hp hcs hgl hEo
   go_wp2_with fail
   refine HV.out.mono ?_
   rintro e w3 ⟨⟨v',rfl,hrv⟩,hX3⟩
   obtain⟨sa,sc,rfl,_,_⟩:=hrv.count z_span (by omega)
   obtain⟨VS,hVS⟩:∃S,versS PS p1 f=S:=⟨_,rfl⟩
   rw[hVS]at hrv HST⊢
   have c2:=hX3.keep (Nat.lt_of_lt_of_le HGC.out.1 HO.out.2.size) c1
   have HX3:=Lh (And.intro hrv hX3)
   clear hrv hX3 HV hVS c1
   by_cases hne:VS= []
   ·
    have HF:Hid (Own w3 (fun c=>w.heap.size≤c) w2.heap.size 59 2 (.slice oa ((P.take i).filterMap (trF PS f)).length oc) ((P.take (i+1)).filterMap (trF PS f)).length (((P.take (i+1)).filterMap (trF PS f)).flatMap trcC)∧Ext w2 w3):=Lh (by
     rw[HST.out,if_pos hne,List.append_nil]
     exact⟨HO.out.1.ext HX3.out.2,HO.out.2.trans HX3.out.2⟩)
    subst hne
    simp only[List.length_nil]at*
    obtain⟨K,hK⟩:∃K,((P.take i).filterMap (trF PS f)).length=K:=⟨_,rfl⟩
    rw[hK]at HF⊢
    clear hK HST HO
    go_wp2_with fail
    go_roundw
    case rel=>exact⟨i+1,by go_num,by omega,HF⟩
    case measure=>simp only[downV];omega
   ·
    have h0:(0:Int)< (VS.length:Int):=by have:=List.length_pos_iff.2 hne;omega
    have hT:(P.take (i+1)).filterMap (trF PS f)=(P.take i).filterMap (trF PS f)++ [⟨p1,VS⟩]:=by rw[HST.out,if_neg hne]
    obtain⟨TL,hTL⟩:∃T,(P.take i).filterMap (trF PS f)=T:=⟨_,rfl⟩
    have hTn:TL.length< 100000000:=by
     have:=List.length_filterMap_le (trF PS f) (P.take i)
     rw[hTL,List.length_take]at this
     omega
    have HOt:=HO.out
    rw[hTL]at hT HOt⊢
    have HT2:=Lh hT
    have HO2:=Lh HOt
    clear hT HOt HO HST hTL hne
    have hbl:Hid (∀b,some b=(Value.slice oa TL.length oc).ownBlock→b< wo.heap.size):=Lh (by
     obtain⟨us,hr,_⟩:=HO2.out.1.rows
     exact fun b hb=>(hr.lt b hb.symm).2)
    go_wp2_with (at_builtin;refine wpList_app1 rfl (.tmp 37) (.tmp 44) 45 rfl w2 59 infoTrc Tryz.underlying45 rfl (by decide) (p:=fun c=>w.heap.size≤c) (v:= .slice oa TL.length oc) (HO2.out.1.ext (HX3.out.2.alloc _)) rfl (g:=w3.heap.size) (ns:= [.string (bs p1),.slice sa VS.length sc]) (ds:=trcC ⟨p1,VS⟩) rfl (blk_new w3 _) rfl (by intro u hu;simp at hu;rcases hu with rfl | rfl<;> rfl) (q:=fun c=>wo.heap.size≤c) (Reps.cons (Rep.string _ _ _ (by rw[bs_size];omega)) (Reps.cons ((HX3.out.1.ext ((Ext.refl w3).alloc _))) (Reps.nil _ _))) (fun b hb _=>⟨Nat.le_trans HEO.out.size hb,fun e=>by have:=hbl.out b e;omega⟩) hTn (by decide) ((HO2.out.2.trans HX3.out.2).alloc _) ?_;intro v4 w4 hO4 hE4 _;have HF4:=Lh (And.intro hO4 hE4);clear hO4 hE4)
    have HF:Hid (Own w4 (fun c=>w.heap.size≤c) w2.heap.size 59 2 v4 ((P.take (i+1)).filterMap (trF PS f)).length (((P.take (i+1)).filterMap (trF PS f)).flatMap trcC)∧Ext w2 w4):=Lh (by
     rw[HT2.out,List.length_append,List.flatMap_append]
     exact⟨by simpa using HF4.out.1,HF4.out.2⟩)
    go_roundw
    case rel=>exact⟨i+1,by go_num,by omega,HF⟩
    case measure=>simp only[downV];omega
  ·
   have hlI:¬(i:Int)< (P.length:Int):=by omega
   have hTR:(P.take i).filterMap (trF PS f)=R:=by rw[List.take_of_length_le (by omega),HT.out]
   have hF:=HO.out
   rw[hTR]at hF⊢
   obtain⟨K,hK⟩:∃K,R.length=K:=⟨_,rfl⟩
   rw[hK]at hF⊢
   have HF:=Lh hF
   clear hF hK HO HT hTR
   go_wp2_with fail
   go_ret
   exact⟨⟨_,rfl,HF.out.1.rep.ok fun c hc=>hc.elim id fun h=>Nat.le_trans HX2.out.1.size h⟩,HX2.out.1.trans HF.out.2⟩
theorem rsame_eq (L:List Trc) (p q:Nat→Prop) (va vb:Value) (w:World) (ha:Rep w p va (trcsD L)) (hb:Rep w q vb (trcsD L)):
  Calls Tryz.prog 11 #[va,vb] w fun e w'=>e= .returned (.bool true)∧Ext w w':=by
 obtain⟨xa,ca,rfl,_,_⟩:=ha.count z_trc (by omega)
 obtain⟨xb,cb,rfl,_,_⟩:=hb.count z_trc (by omega)
 have HV:=Lh (And.intro ha hb)
 clear ha hb
 go_enter Tryz.func11,Tryz.ntmps11
 go_wp2_with fail
 go_loopw [5] (fun t wr=>∃i:Nat,t= .int .i64 i∧i≤L.length∧Hid (Ext w wr)) (fun t _=>downV L.length t)
 case atStart=>exact⟨0,rfl,Nat.zero_le _,Lh (Ext.refl _)⟩
 case round=>
  obtain⟨i,rfl,hi,HX⟩:=hrel
  have hi0:(0:Int)≤(i:Int):=by omega
  obtain⟨wi,hwi⟩:∃wi,wi=wr:=⟨_,rfl⟩
  subst hwi
  by_cases hlt:i< L.length
  ·
   have hlI:(i:Int)< (L.length:Int):=by omega
   obtain⟨ga,oa,ka,hga,lga,_,a0,a1,hka⟩:=trc_at (HV.out.1.ext HX.out) i hlt
   obtain⟨gb,ob,kb,hgb,lgb,_,b0,b1,hkb⟩:=trc_at (HV.out.2.ext HX.out) i hlt
   subst hga
   subst hgb
   obtain⟨x,hx⟩:∃x,L[i]=x:=⟨_,rfl⟩
   rw[hx]at a0 b0 hka hkb
   obtain⟨sa,sc,rfl,_,_⟩:=hka.count z_span (by omega)
   obtain⟨ta,tc,rfl,_,_⟩:=hkb.count z_span (by omega)
   have HSS:=Lh fun W (hE:Ext wi W)=>(spans_any p q x.s x.s _ _ W (hka.ext hE) (hkb.ext hE)).mono (R':=fun e w'=>e= .returned (.bool true)∧Ext W w') fun e w' h=>⟨by rw[h.1,(spansS_iff x.s x.s).2 rfl],h.2⟩
   clear hx hka hkb
   go_wp2_with fail
   refine rg_begin (S:=Sx wi) (by kernel_rfl) (Sx.begin _) ?_
   have hSq:Sx wi (World.drew wi):=(Sx.begin _)
   refine rg_t 0 (some 17) (.slice (some ⟨ga,oa,none⟩) L.length ca) rfl hSq (fun w' hs=>by rfl) ?_
   simp only[Act.put,sA,sZ,sS]
   refine rg_t 1 (some 18) (.int .i64 i) rfl hSq (fun w' hs=>by rfl) ?_
   simp only[Act.put,sA,sZ,sS]
   refine rg_t 2 (some 19) (.pointer (some ⟨ga,oa+i*2,none⟩)) rfl hSq (fun w' hs=>by first | rfl | go_simp) ?_
   simp only[Act.put,sA,sZ,sS]
   refine rg_t 3 (some 20) (.pointer (some ⟨ga,oa+i*2,none⟩)) rfl hSq (fun w' hs=>by first | rfl | go_simp) ?_
   simp only[Act.put,sA,sZ,sS]
   refine rg_t 4 (some 21) (.string (bs x.p)) rfl hSq (fun w' hs=>by(have h0:=hs.cell lga a0;go_simp)) ?_
   simp only[Act.put,sA,sZ,sS]
   refine rg_t 5 (some 22) (.slice (some ⟨gb,ob,none⟩) L.length cb) rfl hSq (fun w' hs=>by rfl) ?_
   simp only[Act.put,sA,sZ,sS]
   refine rg_t 6 (some 23) (.int .i64 i) rfl hSq (fun w' hs=>by rfl) ?_
   simp only[Act.put,sA,sZ,sS]
   refine rg_t 7 (some 24) (.pointer (some ⟨gb,ob+i*2,none⟩)) rfl hSq (fun w' hs=>by first | rfl | go_simp) ?_
   simp only[Act.put,sA,sZ,sS]
   refine rg_t 8 (some 25) (.pointer (some ⟨gb,ob+i*2,none⟩)) rfl hSq (fun w' hs=>by first | rfl | go_simp) ?_
   simp only[Act.put,sA,sZ,sS]
   refine rg_t 9 (some 26) (.string (bs x.p)) rfl hSq (fun w' hs=>by(have h0:=hs.cell lgb b0;go_simp)) ?_
   simp only[Act.put,sA,sZ,sS]
   refine rg_t 10 (some 27) (.bool false) rfl hSq (fun w' hs=>by exact exec_sne_same rfl rfl rfl _) ?_
   simp only[Act.put,sA,sZ,sS]
   refine rg_t 11 (some 28) (.bool false) rfl hSq (fun w' hs=>by rfl) ?_
   simp only[Act.put,sA,sZ,sS]
   refine rg_t 12 (some 29) (.slice (some ⟨ga,oa,none⟩) L.length ca) rfl hSq (fun w' hs=>by rfl) ?_
   simp only[Act.put,sA,sZ,sS]
   refine rg_t 13 (some 30) (.int .i64 i) rfl hSq (fun w' hs=>by rfl) ?_
   simp only[Act.put,sA,sZ,sS]
   refine rg_t 14 (some 31) (.pointer (some ⟨ga,oa+i*2,none⟩)) rfl hSq (fun w' hs=>by first | rfl | go_simp) ?_
   simp only[Act.put,sA,sZ,sS]
   refine rg_t 15 (some 32) (.pointer (some ⟨ga,oa+i*2+1,none⟩)) rfl hSq (fun w' hs=>by first | rfl | go_simp) ?_
   simp only[Act.put,sA,sZ,sS]
   refine rg_t 16 (some 33) (.slice sa x.s.length sc) rfl hSq (fun w' hs=>by(have h0:=hs.cell lga a1;go_simp)) ?_
   simp only[Act.put,sA,sZ,sS]
   refine rg_t 17 (some 34) (.slice (some ⟨gb,ob,none⟩) L.length cb) rfl hSq (fun w' hs=>by rfl) ?_
   simp only[Act.put,sA,sZ,sS]
   refine rg_t 18 (some 35) (.int .i64 i) rfl hSq (fun w' hs=>by rfl) ?_
   simp only[Act.put,sA,sZ,sS]
   refine rg_t 19 (some 36) (.pointer (some ⟨gb,ob+i*2,none⟩)) rfl hSq (fun w' hs=>by first | rfl | go_simp) ?_
   simp only[Act.put,sA,sZ,sS]
   refine rg_t 20 (some 37) (.pointer (some ⟨gb,ob+i*2+1,none⟩)) rfl hSq (fun w' hs=>by first | rfl | go_simp) ?_
   simp only[Act.put,sA,sZ,sS]
   refine rg_t 21 (some 38) (.slice ta x.s.length tc) rfl hSq (fun w' hs=>by(have h0:=hs.cell lgb b1;go_simp)) ?_
   simp only[Act.put,sA,sZ,sS]
   refine rg_call 22 (some 39) 15 #[.slice sa x.s.length sc,.slice ta x.s.length tc] rfl rfl (by kernel_rfl) (by rfl) (fun w'=>by first | rfl | go_simp) (R:=fun v w'=>v= .bool true∧Ext (World.drew wi) w') ?_ ?_
   ·
    refine(HSS.out (World.drew wi) hSq).mono ?_
    rintro e w' ⟨rfl,h⟩
    exact⟨_,rfl,rfl,h⟩
   rintro _ wrq1 ⟨rfl,hBrq1⟩
   have hSq1:=hSq.ext hBrq1
   refine⟨hSq1,?_⟩
   simp only[Act.put,sA,sZ,sS]
   refine rg_t 23 (some 40) (.bool false) rfl hSq1 (fun w' hs=>by first | rfl | go_simp) ?_
   simp only[Act.put,sA,sZ,sS]
   refine rg_t 24 (some 41) (.bool false) rfl hSq1 (fun w' hs=>by rfl) ?_
   simp only[Act.put,sA,sZ,sS]
   refine rg_done (by kernel_rfl) ?_
   have HXF:=Lh (HX.out.trans (show Ext wi _ from hSq1))
   clear a0 a1 b0 b1 HSS
   go_wp2_with fail
   go_roundw
   case rel=>exact⟨i+1,by go_num,by omega,HXF⟩
   case measure=>simp only[downV];omega
  ·
   have hlI:¬(i:Int)< (L.length:Int):=by omega
   go_wp2_with fail
   go_ret
   exact⟨rfl,HX.out⟩
theorem res_ctt {fn:Func} {t u x:Tmp} {T:TypeId} (h:fn.results= #[.cell t T,.tmp u,.tmp x]) (tmps:Array Value) (P:Program) (w:World) (ad:Addr) {v:Value} (ha:tmps.getD t undef= .pointer (some ad)) (hl:(loadVar T ad).run P w= .ok v w):
  (results fn tmps).run P w= .ok (.tuple #[v,tmps.getD u undef,tmps.getD x undef]) w:=by
 have ha':tmps[t]?.getD undef= .pointer (some ad):=by simpa using ha
 simp[results,h,ha',asAddr,hl]
def MadeR (l:List Rule) (e:Ending) (w':World):Prop:=∃(b:Bool) (last:Int) (n:ANode) (k v pa c ta:Option Addr) (kc vc pc cc tn tc:Nat),
 e= .returned (.tuple #[.agg #[.int .i64 last,.string (bs n.name),.slice k n.key.length kc,.slice v n.vers.length vc,.slice pa n.parts.length pc,.slice c n.kids.length cc],.slice ta tn tc,.bool b])∧
 (b=true→∃(N:Nat) (T:List (List QN)),last=N∧ArOk n N∧psA n N=psT T 0∧T.length≤12∧tn=T.length∧(∀t∈T,t.length≤100)∧(∀t∈T,∀q∈t,ok4 (k4 q))∧Rep w' (fun _=>True) (.slice ta tn tc) (tabsD T)∧
  Rep w' (fun _=>True) (.slice k n.key.length kc) (strsD n.key)∧Rep w' (fun _=>True) (.slice v n.vers.length vc) (spansD n.vers)∧Rep w' (fun _=>True) (.slice pa n.parts.length pc) (partsD n.parts)∧Rep w' (fun _=>True) (.slice c n.kids.length cc) (anodesD n.kids))
theorem made_any (l:List Rule) (hb:RulesB l) (hll:l.length≤1048576) (docs:List Node) (hcnt:∀d∈docs,cntN d≤1048576) (p:Nat→Prop) (vl vd:Value) (w:World) (hvl:Rep w p vl (rulesD l)) (hvd:Rep w p vd (nodesD docs)):
  Calls Tryz.prog 7 #[vl,vd] w fun e w'=>MadeR l e w'∧Ext w w':=by
 obtain⟨w1,hw1⟩:∃X,w.alloc (.cells #[.int .i64 0,.string ⟨#[]⟩,.slice none 0 0,.slice none 0 0,.slice none 0 0,.slice none 0 0] 34)=X:=⟨_,rfl⟩
 have hE1:Ext w w1:=by rw[←hw1];exact(Ext.refl _).alloc _
 have hz1:Z6 w1 w.heap.size:=by
  rw[←hw1]
  exact⟨by simp,by simp[go_sem],by simp[go_sem],by simp[go_sem],by simp[go_sem],by simp[go_sem],by simp[go_sem],by simp[go_sem],by simp[go_sem],by simp[go_sem],by simp[go_sem],by simp[go_sem],by simp[go_sem]⟩
 have HFI:=Lh (fits2_any l hb hll docs p vl vd w1 hcnt (hvl.ext hE1) (hvd.ext hE1))
 have HNO:=Lh fun W (hE:Ext w1 W) (hc:∀d∈docs,cntN d≤1200) (hn:docs.length≤12)=>normals2_any l hb hll docs p vl vd W hc (by omega) ((hvl.ext hE1).ext hE) ((hvd.ext hE1).ext hE)
 obtain⟨la,lc,rfl,_,_⟩:=hvl.count z_rule (by omega)
 obtain⟨da,dc,rfl,_,_⟩:=hvd.count z_node (by omega)
 have HZ1:=Lh (And.intro hz1 (And.intro hE1 (And.intro hvl hb)))
 clear hz1 hE1 hcnt hvl hvd hb
 go_enter Tryz.func7,Tryz.ntmps7
 go_wp2_with fail
 refine HFI.out.mono ?_
 rintro e w2 ⟨⟨b1,rfl,hf⟩,hX2⟩
 have HF:=Lh hf
 have HX2:=Lh hX2
 clear HFI hf hX2 hw1
 cases b1 with
 | false=>
  have HZ:=Lh (HZ1.out.1.ext HX2.out)
  have hXw:=HZ1.out.2.1.trans HX2.out
  have hz:=HZ.out
  obtain⟨u0,c0⟩:∃u,w2.cell? ⟨w.heap.size,0,none⟩=some u:=⟨_,hz.c0⟩;obtain⟨u1,c1⟩:∃u,w2.cell? ⟨w.heap.size,1,none⟩=some u:=⟨_,hz.c1⟩;obtain⟨u2,c2⟩:∃u,w2.cell? ⟨w.heap.size,2,none⟩=some u:=⟨_,hz.c2⟩;obtain⟨u3,c3⟩:∃u,w2.cell? ⟨w.heap.size,3,none⟩=some u:=⟨_,hz.c3⟩;obtain⟨u4,c4⟩:∃u,w2.cell? ⟨w.heap.size,4,none⟩=some u:=⟨_,hz.c4⟩;obtain⟨u5,c5⟩:∃u,w2.cell? ⟨w.heap.size,5,none⟩=some u:=⟨_,hz.c5⟩
  have f0:=hz.f0;have f1:=hz.f1;have f2:=hz.f2;have f3:=hz.f3;have f4:=hz.f4;have f5:=hz.f5
  clear hz
  go_wp2_with fail
  (try simp only[Exit.inBlock,Exit.then])
  refine bodyPost_ret (res_ctt rfl _ _ _ ⟨w.heap.size,0,none⟩ ?_ (load_arch HZ.out 0 zeroA (.slice none 0 0) (.slice none 0 0) (.slice none 0 0) (.slice none 0 0))) rfl ?_
  ·
   rfl
  refine⟨⟨false,0,zeroA,none,none,none,none,none,0,0,0,0,0,0,rfl,fun h=>by cases h⟩,?_⟩
  exact((((((hXw.set (p:=⟨w.heap.size,0,none⟩) (Nat.le_refl _) _).set (p:=⟨w.heap.size,1,none⟩) (Nat.le_refl _) _).set (p:=⟨w.heap.size,2,none⟩) (Nat.le_refl _) _).set (p:=⟨w.heap.size,3,none⟩) (Nat.le_refl _) _).set (p:=⟨w.heap.size,4,none⟩) (Nat.le_refl _) _).set (p:=⟨w.heap.size,5,none⟩) (Nat.le_refl _) _)
 | true=>
  obtain⟨hd12,hmay,hd1200,hkeys⟩:=HF.out rfl
  obtain⟨nm,ks,rs,hl⟩:=hmay.root
  have hok:RulesOk l:=hmay.rules HZ1.out.2.2.2
  have HNR:=Lh (HNO.out w2 HX2.out hd1200 hd12)
  have HL:=Lh (And.intro hl (And.intro hok (And.intro hkeys hd12)))
  clear hmay hl hok hd1200 hkeys HNO HF
  go_wp2_with fail
  refine HNR.out.mono ?_
  rintro e w3 ⟨⟨L,⟨nv,rfl,hnv⟩,hLl,hLn⟩,hX3⟩
  obtain⟨na,nc,rfl,_,_⟩:=hnv.count z_node (by omega)
  have hX13:=HX2.out.trans hX3
  have hDO:=fun d hd=>nf_doc HL.out.1 HL.out.2.2.1 (hLn d hd)
  have hvl3:=HZ1.out.2.2.1.ext (HZ1.out.2.1.trans hX13)
  have HTB:=Lh (rtabs_any l HL.out.2.1 L (fun d hd=>⟨(hDO d hd).1,by have:=(hDO d hd).2.1;omega⟩) (by omega) p (fun _=>True) _ _ w3 hvl3 (hnv.ok fun _ _=>trivial))
  have hw2s:w.heap.size< w2.heap.size:=Nat.lt_of_lt_of_le HZ1.out.1.lt HX2.out.size
  have HN:=Lh (And.intro hLn (And.intro (hnv.ok (q:=fun b=>b≠w.heap.size) fun b hb=>by omega) (And.intro ((HZ1.out.2.2.1.lt.ext (HZ1.out.2.1.trans hX13)).ok (q:=fun b=>b≠w.heap.size) fun b hb=>by have:=hb.2;omega) hX13)))
  clear hLn hnv hX3 hX13 hDO hvl3 HNR hw2s
  go_wp2_with fail
  refine HTB.out.mono ?_
  rintro e w4 ⟨⟨T,⟨tv,rfl,htv⟩,hTk,hTok⟩,hX4⟩
  obtain⟨ta,tc,rfl,_,_⟩:=htv.count z_tab (by omega)
  have hTl:T.length=L.length:=by have:=congrArg List.length hTk;simpa using this
  have hw3s:w.heap.size< w3.heap.size:=Nat.lt_of_lt_of_le HZ1.out.1.lt HN.out.2.2.2.size
  have HT:=Lh (And.intro (htv.ok (q:=fun b=>b≠w.heap.size) fun b hb=>by omega) (And.intro hTk (And.intro hTok (And.intro (HN.out.2.2.2.trans hX4) (And.intro hX4 hTl)))))
  have hT12:T.length≤12:=by have:=HL.out.2.2.2;omega
  clear htv hTk hTok hX4 HTB hTl hw3s
  go_wp2_with fail
  go_loopw [9] (fun t wr=>∃i:Nat,t= .int .i64 i∧i≤T.length∧wr=w4∧Hid (∀(j:Nat) (h:j< T.length),j< i→T[j].length≤100)) (fun t _=>downV T.length t)
  case atStart=>exact⟨0,rfl,Nat.zero_le _,rfl,Lh fun j _ h=>absurd h (Nat.not_lt_zero _)⟩
  case round=>
   obtain⟨i,rfl,hi,rfl,HI⟩:=hrel
   have hi0:(0:Int)≤(i:Int):=by omega
   by_cases hlt:i< T.length
   ·
    have hlI:(i:Int)< (T.length:Int):=by omega
    obtain⟨gt,ot,ut,hgt,lgt,ct,hut⟩:=tab_at HT.out.1 i hlt
    subst hgt
    have hIK:=HI.out
    obtain⟨M,hM⟩:∃M,T[i]=M:=⟨_,rfl⟩
    rw[hM]at hut
    obtain⟨ma,mc,rfl,_,_⟩:=hut.count z_qn (by omega)
    have HM:=Lh hM
    clear hut hM
    by_cases h100:M.length≤100
    ·
     have hg:¬(100:Int)< (M.length:Int):=by omega
     have HI2:Hid (∀(j:Nat) (h:j< T.length),j< i+1→T[j].length≤100):=Lh fun j hj hji=>by
      by_cases e:j=i
      ·
       subst e;rw[HM.out];exact h100
      ·
       exact hIK j hj (by omega)
     clear hIK HI
     go_wp2_with fail
     go_roundw
     case rel=>exact⟨i+1,by go_num,by omega,trivial,HI2⟩
     case measure=>simp only[downV];omega
    ·
     have hg:(100:Int)< (M.length:Int):=by omega
     have HZ:=Lh (HZ1.out.1.ext HT.out.2.2.2.1)
     have hXw:=HZ1.out.2.1.trans HT.out.2.2.2.1
     clear hIK HI
     have hz:=HZ.out
     obtain⟨u0,c0⟩:∃u,wr.cell? ⟨w.heap.size,0,none⟩=some u:=⟨_,hz.c0⟩;obtain⟨u1,c1⟩:∃u,wr.cell? ⟨w.heap.size,1,none⟩=some u:=⟨_,hz.c1⟩;obtain⟨u2,c2⟩:∃u,wr.cell? ⟨w.heap.size,2,none⟩=some u:=⟨_,hz.c2⟩;obtain⟨u3,c3⟩:∃u,wr.cell? ⟨w.heap.size,3,none⟩=some u:=⟨_,hz.c3⟩;obtain⟨u4,c4⟩:∃u,wr.cell? ⟨w.heap.size,4,none⟩=some u:=⟨_,hz.c4⟩;obtain⟨u5,c5⟩:∃u,wr.cell? ⟨w.heap.size,5,none⟩=some u:=⟨_,hz.c5⟩
     have f0:=hz.f0;have f1:=hz.f1;have f2:=hz.f2;have f3:=hz.f3;have f4:=hz.f4;have f5:=hz.f5
     clear hz
     go_wp2_with fail
     (try simp only[Exit.inBlock,Exit.then])
     refine bodyPost_ret (res_ctt rfl _ _ _ ⟨w.heap.size,0,none⟩ ?_ (load_arch HZ.out 0 zeroA (.slice none 0 0) (.slice none 0 0) (.slice none 0 0) (.slice none 0 0))) rfl ?_
     ·
      rfl
     refine⟨⟨false,0,zeroA,none,none,none,none,none,0,0,0,0,0,0,rfl,fun h=>by cases h⟩,?_⟩
     exact((((((hXw.set (p:=⟨w.heap.size,0,none⟩) (Nat.le_refl _) _).set (p:=⟨w.heap.size,1,none⟩) (Nat.le_refl _) _).set (p:=⟨w.heap.size,2,none⟩) (Nat.le_refl _) _).set (p:=⟨w.heap.size,3,none⟩) (Nat.le_refl _) _).set (p:=⟨w.heap.size,4,none⟩) (Nat.le_refl _) _).set (p:=⟨w.heap.size,5,none⟩) (Nat.le_refl _) _)
   ·
    have hlI:¬(i:Int)< (T.length:Int):=by omega
    have h100:∀t∈T,t.length≤100:=fun t ht=>by
     obtain⟨j,hj,rfl⟩:=List.getElem_of_mem ht
     exact HI.out j hj (by omega)
    have hTe:∀d∈L,(tabD l d).length≤100:=fun d hd=>by
     have h1:tabD l d∈T.map (·.map k4):=by rw[HT.out.2.1];exact List.mem_map.2 ⟨d,hd,rfl⟩
     obtain⟨t,ht,e⟩:=List.mem_map.1 h1
     rw[←e,List.length_map]
     exact h100 t ht
    have hL12:L.length≤12:=by have:=HL.out.2.2.2;omega
    have hAR:=ar_ok HL.out.1 HL.out.2.2.1 HN.out.1 hL12 hTe
    have hPS:=psA_T HL.out.1 HN.out.1 hL12 T HT.out.2.1
    have HBU:=Lh (build_any l nm HL.out.2.1 ⟨ks,rs,HL.out.1⟩ L (fun b=>b≠w.heap.size) _ _ wr (fun d hd=>⟨(nf_wf HL.out.1 (HN.out.1 d hd)).1,by have:=(HN.out.1 d hd).cnt;omega⟩) (by omega) (HN.out.2.2.1.ext HT.out.2.2.2.2.1) (HN.out.2.1.ext HT.out.2.2.2.2.1))
    obtain⟨RT,hRT⟩:∃R,rootP l nm L=R:=⟨_,rfl⟩
    rw[hRT]at HBU hAR hPS
    have HY:=Lh (And.intro hAR (And.intro hPS (And.intro h100 hL12)))
    clear hAR hPS hTe h100 hRT HI hL12
    go_wp2_with fail
    refine HBU.out.mono ?_
    rintro e w5 ⟨⟨k,v,pa,c,kc,vc,pc,cc,rfl,hk,hv,hpa,hc⟩,hX5⟩
    have hz5:=HZ1.out.1.ext (HT.out.2.2.2.1.trans hX5)
    have hXz:Ext w w5:=(HZ1.out.2.1.trans HT.out.2.2.2.1).trans hX5
    have c0:=hz5.c0;have c1:=hz5.c1;have c2:=hz5.c2;have c3:=hz5.c3;have c4:=hz5.c4;have c5:=hz5.c5
    have f0:=hz5.f0;have f1:=hz5.f1;have f2:=hz5.f2;have f3:=hz5.f3;have f4:=hz5.f4;have f5:=hz5.f5
    have HZ5:=Lh hz5
    have hwrs:w.heap.size< wr.heap.size:=Nat.lt_of_lt_of_le HZ1.out.1.lt HT.out.2.2.2.1.size
    have hcv:∀b,(b≠w.heap.size∨wr.heap.size≤b)→b≠w.heap.size:=fun b hb=>by omega
    have HTR:=Lh (And.intro (HT.out.1.ext hX5) (And.intro (hk.ok hcv) (And.intro (hv.ok hcv) (And.intro (hpa.ok hcv) (hc.ok hcv)))))
    have HXZ:=Lh hXz
    clear hz5 hXz hk hv hpa hc hX5 HBU hwrs hcv
    go_wp2_with fail
    (try simp only[Exit.inBlock,Exit.then])
    refine bodyPost_ret (res_ctt rfl _ _ _ ⟨w.heap.size,0,none⟩ ?_ (load_arch HZ5.out L.length RT (.slice k RT.key.length kc) (.slice v RT.vers.length vc) (.slice pa RT.parts.length pc) (.slice c RT.kids.length cc))) rfl ?_
    ·
     rfl
    have hrep:∀(x:Value) (d:DV),Rep w5 (fun b=>b≠w.heap.size) x d→Rep (sar w5 w.heap.size L.length RT (.slice k RT.key.length kc) (.slice v RT.vers.length vc) (.slice pa RT.parts.length pc) (.slice c RT.kids.length cc)) (fun _=>True) x d:=fun x d h=>(h.kept fun b hb _=>sar_block _ _ _ _ _ _ _ _ hb).ok fun _ _=>trivial
    exact⟨⟨true,L.length,RT,k,v,pa,c,ta,kc,vc,pc,cc,T.length,tc,rfl,fun _=>⟨L.length,T,rfl,HY.out.1,HY.out.2.1,hT12,rfl,HY.out.2.2.1,HT.out.2.2.1,hrep _ _ HTR.out.1,hrep _ _ HTR.out.2.1,hrep _ _ HTR.out.2.2.1,hrep _ _ HTR.out.2.2.2.1,hrep _ _ HTR.out.2.2.2.2⟩⟩,HXZ.out.sar (Nat.le_refl _) _ _ _ _ _ _⟩
end Go.Proofs.YtngmgjodcnknoaaGreatDoor
