/-
 The builder:shut,below,newBuilder. Helper lemmas;no statement of the seat is proved here.
-/
import Derived.Test.YtngmgjodcnknoaaGreatDoorU22
import Derived.Test.YtngmgjodcnknoaaGreatDoorU21
import Derived.RangeFuncNested
import Derived.RangeFuncBound
import Derived.RangeFuncCalls
import Derived.RangeFuncLeaves
import Derived.Shelf.Abstract
import Derived.Shelf.RegionOpen
import Derived.OwnWalkIn
import Derived.TacticsInMore
import Derived.LoopNIn
import Derived.LoopIn
namespace Go.Proofs.YtngmgjodcnknoaaGreatDoor
open Go.RowKit
set_option maxHeartbeats 32000000
set_option maxRecDepth 100000
set_option linter.unusedVariables false
set_option linter.unusedSimpArgs false
theorem store_int' {P:Program} {W:World} {b o:Nat} {u:Value} (t:TypeId) (hs:∀W,(sizeOf t).run P W= .ok 1 W) (hc:W.cell? ⟨b,o,none⟩=some u) (hf:W.frozen? ⟨b,o,none⟩=false) (k:IntKind) (n:Int):
  (Instr.storeAt t (.pointer (some ⟨b,o,none⟩)) (.int k n)).run P W= .ok () (W.setCell ⟨b,o,none⟩ (.int k n)):=by
 go_simp
theorem s1Int:∀W,(sizeOf 3).run Tryz.prog W= .ok 1 W:=fun W=>by go_simp
theorem BS.cell {w0 W:World} {g rb rc:Nat} {rv:Value} {L:List QN} {a:Nat} (h:BS w0 g W L) (hb:W.heap[g]? =some (.cells #[rv,.slice (some ⟨rb,0,none⟩) L.length rc] 119)) (hown:W.ownsRow w0.heap.size 81 6 (.slice (some ⟨rb,0,none⟩) L.length rc) L.length (L.flatMap qnV)) (hne:rb≠g) (ha:a< L.length) (f:Int):
  BS w0 g ((World.drew W).setCell ⟨rb,a*6+4,none⟩ (.int .i64 f)) (L.set a {L[a]with fin:=f})∧BK g W ((World.drew W).setCell ⟨rb,a*6+4,none⟩ (.int .i64 f)):=by
 have hbase:=(hown.lt rb rfl).1
 have hb2:((World.drew W).setCell ⟨rb,a*6+4,none⟩ (.int .i64 f)).heap[g]? =some (.cells #[rv,.slice (some ⟨rb,0,none⟩) L.length rc] 119):=by
  rw[Below.heap_setCell _ _ _ _ (fun e=>hne e.symm)];exact hb
 have hc:((World.drew W).setCell ⟨rb,a*6+4,none⟩ (.int .i64 f)).cell? ⟨g,1,none⟩=some (.slice (some ⟨rb,0,none⟩) L.length rc):=blk_cell hb2 (k:=1) rfl
 refine⟨⟨(h.ext.trans (Ext.refl W).drew).set (p:=⟨rb,a*6+4,none⟩) hbase _,h.base,⟨rv,_,hb2,?_,fun e=>hne (Option.some.inj e).symm⟩,?_⟩,⟨?_,fun b hbl hf=> ?_⟩⟩
 ·
  rw[List.length_set,←qn_set L a ha f]
  exact ownsRow_cell (w:=World.drew W) hown kA _
 ·
  intro q hq
  rcases List.mem_or_eq_of_mem_set hq with hq | rfl
  ·
   exact h.fl q hq
  ·
   have:=h.fl L[a] (List.getElem_mem ha)
   exact⟨this.1,this.2.1,this.2.2⟩
 ·
  simp
 ·
  have hbr:b≠rb:=fun e=>hf.2 _ (blk_cell hb (k:=1) rfl) (by rw[e];rfl)
  refine⟨by rw[Below.heap_setCell _ _ _ _ hbr];rfl,hf.1,fun d hd=> ?_⟩
  rw[hc]at hd
  cases hd
  exact fun e=>hbr (Option.some.inj e)
theorem shut_any (w0 W:World) (g:Nat) (L:List QN) (a:Nat) (h:BS w0 g W L) (ha:a< L.length) (hL:L.length≤100000000):
  Calls Tryz.prog 53 #[.pointer (some ⟨g,0,none⟩),.int .i64 a] W fun e w'=>e= .returned (.tuple #[])∧BS w0 g w' (L.set a {L[a]with fin:=(L.length:Int)})∧BK g W w':=by
 obtain⟨rv,rb,rc,hb,hown,hne,hlr⟩:=h.form kA
 have hlg:=blk_lt hb
 have c1:W.cell? ⟨g,1,none⟩=some (.slice (some ⟨rb,0,none⟩) L.length rc):=blk_cell hb (k:=1) rfl
 have haI:(a:Int)< (L.length:Int):=by omega
 have ha0:=nZ0 a
 have HW:=Lh (And.intro h (And.intro hb (And.intro hown (And.intro hne ha))))
 have hcs:∃u,(World.drew W).cell? ⟨rb,a*6+4,none⟩=some u:=by
  have:=hown.cells (g:=rb) rfl (a*6+4) _ (qn_at L a ha 4 _ rfl)
  rw[add_offs',Nat.zero_add]at this
  exact⟨_,this⟩
 have hfr:(World.drew W).frozen? ⟨rb,a*6+4,none⟩=false:=hown.frozenAt (a*6+4)
 obtain⟨L',hL'⟩:∃L',L.set a {L[a]with fin:=(L.length:Int)}=L':=⟨_,rfl⟩
 rw[hL']
 have HL':=Lh hL'
 obtain⟨u,hcs⟩:=hcs
 clear h hb hown hL'
 go_enter Tryz.func53,Tryz.ntmps53
 go_wp2_with fail
 refine rg_cut (S:=Sx W) 10 kB kB kB kB (Sx.begin _) ?_
 have hSs:Sx W (World.drew W):=(Sx.begin _)
 refine gT 0 4 (.pointer (some ⟨g,0,none⟩)) hSs ?_
 simp only[Act.put,sA,sZ,sS]
 refine gT 1 5 (.pointer (some ⟨g,0,none⟩)) hSs ?_
 simp only[Act.put,sA,sZ,sS]
 refine gT 2 6 (.pointer (some ⟨g,1,none⟩)) hSs ?_
 simp only[Act.put,sA,sZ,sS]
 refine gT 3 7 (.slice (some ⟨rb,0,none⟩) L.length rc) hSs ?_ (hv:=fun w' hs=>by(have h0:=hs.cell hlg c1;go_simp))
 simp only[Act.put,sA,sZ,sS]
 refine gT 4 8 (.int .i64 a) hSs ?_
 simp only[Act.put,sA,sZ,sS]
 refine gT 5 9 (.pointer (some ⟨g,0,none⟩)) hSs ?_
 simp only[Act.put,sA,sZ,sS]
 refine gT 6 10 (.pointer (some ⟨g,0,none⟩)) hSs ?_
 simp only[Act.put,sA,sZ,sS]
 refine gT 7 11 (.pointer (some ⟨g,1,none⟩)) hSs ?_
 simp only[Act.put,sA,sZ,sS]
 refine gT 8 12 (.slice (some ⟨rb,0,none⟩) L.length rc) hSs ?_ (hv:=fun w' hs=>by(have h0:=hs.cell hlg c1;go_simp))
 simp only[Act.put,sA,sZ,sS]
 refine gT 9 13 (.int .i64 L.length) hSs ?_
 simp only[Act.put,sA,sZ,sS]
 refine rg_done kB ?_
 refine rg_go 3 #[true,true,true,true,true,true,true,true,true,true,false,false,false] kB kB fun m=> ?_
 refine gT 10 14 (.pointer (some ⟨rb,a*6,none⟩)) trivial ?_
 simp only[Act.put,sA,sZ,sS]
 refine gT 11 15 (.pointer (some ⟨rb,a*6+4,none⟩)) trivial ?_
 simp only[Act.put,sA,sZ,sS]
 refine rg_write 12 none ((World.drew W).setCell ⟨rb,a*6+4,none⟩ (.int .i64 L.length)) rfl rfl kB (by rfl) (exec_store rfl (store_int' _ s1Int hcs hfr _ _)) trivial ?_
 simp only[Act.put,sA,sZ,sS]
 refine rg_done kB ?_
 have HF:Hid (BS w0 g ((World.drew W).setCell ⟨rb,a*6+4,none⟩ (.int .i64 L.length)) L'∧BK g W ((World.drew W).setCell ⟨rb,a*6+4,none⟩ (.int .i64 L.length))):=Lh (by
  obtain⟨h,hb,hown,hne,ha⟩:=HW.out
  rw[←HL'.out]
  exact h.cell hb hown hne ha (L.length:Int))
 obtain⟨wF,hwF⟩:∃wF,(World.drew W).setCell ⟨rb,a*6+4,none⟩ (.int .i64 L.length)=wF:=⟨_,rfl⟩
 rw[hwF]at HF
 rw[hwF]
 clear hwF HW HL' hcs hfr c1
 go_wp2_with fail
 exact bodyPost_end (results_none rfl _ _ _) rfl ⟨rfl,HF.out⟩
def PPat (L:List QN) (a:Nat) (pp:Bytes):Prop:=pp.length≤1000000000000∧(a=0→pp= [])∧(a≠0→∃q,L[a]? =some q∧q.path=pp)
theorem below_any (w0 W:World) (g:Nat) (L:List QN) (a:Nat) (pp s:Bytes) (h:BS w0 g W L) (hL:L.length≤100000000) (hs:s.length≤100000000000000) (hp:PPat L a pp):
  Calls Tryz.prog 85 #[.pointer (some ⟨g,0,none⟩),.int .i64 a,.string (bs s)] W fun e w'=>e= .returned (.string (bs (pp++([47]++s))))∧w'=W:=by
 obtain⟨hpl,hp0,hp1⟩:=hp
 by_cases ha:a=0
 ·
  subst ha
  have hpp:=hp0 rfl
  subst hpp
  have hg:¬9223372036854775807< 1+(bs s).size:=by rw[bs_size];omega
  have hc:(⟨#[47]⟩:ByteArray)++bs s=bs ([]++([47]++s)):=by rw[List.nil_append,←bs_append];rfl
  clear hp0 hp1 h
  go_enter Tryz.func85,Tryz.ntmps85
  go_wp2_with fail
  go_ret
  exact⟨congrArg (fun s=>Ending.returned (.string s)) hc,rfl⟩
 ·
  obtain⟨q,hq,rfl⟩:=hp1 ha
  obtain⟨hal,hqe⟩:=List.getElem?_eq_some_iff.1 hq
  subst hqe
  obtain⟨rv,rb,rc,hb,hown,hne,hlr⟩:=h.form kA
  have c1:W.cell? ⟨g,1,none⟩=some (.slice (some ⟨rb,0,none⟩) L.length rc):=blk_cell hb (k:=1) rfl
  have haI:(a:Int)< (L.length:Int):=by omega
  have ha0:=nZ0 a
  have ha1:((a:Int)==0)=false:=by rw[beq_eq_false_iff_ne];omega
  have c5:W.cell? ⟨rb,a*6+5,none⟩=some (.string (bs L[a].path)):=by
   have:=hown.cells (g:=rb) rfl (a*6+5) _ (qn_at L a hal 5 _ rfl)
   rw[add_offs',Nat.zero_add]at this
   exact this
  obtain⟨P,hP⟩:∃P,L[a].path=P:=⟨_,rfl⟩
  rw[hP]at c5 hpl⊢
  have hg1:¬9223372036854775807< (bs P).size+1:=by rw[bs_size];omega
  have hg2:¬9223372036854775807< (bs P).size+1+(bs s).size:=by rw[bs_size,bs_size];omega
  have hc:bs P++(⟨#[47]⟩:ByteArray)++bs s=bs (P++([47]++s)):=by rw[←List.append_assoc,←bs_append,←bs_append];rfl
  have HC:=Lh hc
  clear hc hP hown hb h hp0 hp1 hq ha
  go_enter Tryz.func85,Tryz.ntmps85
  go_wp2_with fail
  go_ret
  exact⟨congrArg (fun s=>Ending.returned (.string s)) HC.out,rfl⟩
theorem newb_any (vr:Value) (w:World) (a:Option Addr) (n c:Nat) (hr:vr= .slice a n c):
  Calls Tryz.prog 51 #[vr] w fun e w'=>(∃g,e= .returned (.pointer (some ⟨g,0,none⟩))∧BS w g w' [⟨6,[],[], -1,0,[47]⟩]∧w'.cell? ⟨g,0,none⟩=some vr)∧Ext w w':=by
 subst hr
 go_enter Tryz.func51,Tryz.ntmps51
 go_wp2_with fail
 go_ret
 obtain⟨o1,ho1⟩:∃o,Obj.cells #[Value.int .i64 6,.string ⟨#[]⟩,.string ⟨#[]⟩,.int .i64 (-1),.int .i64 0,.string ⟨#[47]⟩] 81=o:=⟨_,rfl⟩
 obtain⟨o2,ho2⟩:∃o,Obj.cells #[Value.slice a n c,.slice (some ⟨w.heap.size,0,none⟩) 1 1] 119=o:=⟨_,rfl⟩
 rw[ho1,ho2]
 have hE:Ext w ((w.alloc o1).alloc o2):=((Ext.refl w).alloc _).alloc _
 have e2:((w.alloc o1).alloc o2).heap[w.heap.size+1]? =some o2:=by
  have:(w.alloc o1).heap.size=w.heap.size+1:=by simp
  rw[←this];exact Array.getElem?_push_size
 have e1:((w.alloc o1).alloc o2).heap[w.heap.size]? =some o1:=by
  rw[((Ext.refl (w.alloc o1)).alloc o2).block w.heap.size kI]
  exact Array.getElem?_push_size
 obtain⟨w2,hw2⟩:∃w2,(w.alloc o1).alloc o2=w2:=⟨_,rfl⟩
 rw[hw2]at e1 e2 hE⊢
 rw[←ho2]at e2
 rw[←ho1]at e1
 refine⟨⟨w.heap.size+1,rfl,⟨hE,by omega,⟨_,_,e2,⟨rfl,.inr ⟨w.heap.size,1,_,rfl,Nat.le_refl _,e1,Nat.le_refl _,by decide,rfl,rfl⟩⟩,fun e=>absurd (Option.some.inj e) (show¬(w.heap.size+1=w.heap.size) by omega)⟩,?_⟩,blk_cell e2 (k:=0) rfl⟩,hE⟩
 intro q hq
 rw[List.mem_singleton.1 hq]
 exact⟨by decide,by decide,by decide⟩
theorem attr_row (path:Bytes) (la:List Attr) (i:Nat) (h:i< la.length):attrRows path (la.take (i+1))=attrRows path (la.take i)++ [((5:Int),la[i].n,la[i].v,path++([47,64]++la[i].n))]:=by
 unfold attrRows
 rw[List.take_succ_eq_append_getElem h,List.map_append];rfl
theorem element_any (w0 W:World) (g:Nat) (L:List QN) (nm:Bytes) (la:List Attr) (p:Nat→Prop) (va:Value) (par:Int) (path:Bytes) (h:BS w0 g W L) (h0:0< L.length) (hL:L.length+la.length+1≤100000000)
  (hok:∀r∈(1,nm,[],path)::attrRows path la,ok4 r) (hva:Rep w0 p va (attrsD la)):
  Calls Tryz.prog 84 #[.pointer (some ⟨g,0,none⟩),.string (bs nm),va,.int .i64 par,.string (bs path)] W fun e w'=>e= .returned (.int .i64 L.length)∧(∃M,BS w0 g w' (L++M)∧M.map k4=(1,nm,[],path)::attrRows path la)∧BK g W w':=by
 obtain⟨ga,gc,rfl,hg1,hg2⟩:=hva.count z_attr kA
 have hok1:=hok _ List.mem_cons_self
 have HOK:=Lh hok
 have HP:=Lh (put_any w0 W g L ⟨1,nm,[],par,0,path⟩ h ⟨hok1.1,hok1.2.1,hok1.2.2⟩ kA)
 have HVA:=Lh hva
 have HH:=Lh h
 clear hok hok1 h hva
 go_enter Tryz.func84,Tryz.ntmps84
 go_wp2_with fail
 refine HP.out.mono ?_
 rintro e w1 ⟨rfl,hB1,hK1⟩
 have HB1:=Lh (And.intro hB1 hK1)
 clear hB1 hK1 HP
 go_wp2_with fail
 go_loopw [13,22] (fun _ t wr=>∃(i:Nat) (M:List QN),t= .int .i64 i∧i≤la.length∧Hid (BS w0 g wr (L++M)∧M.map k4=(1,nm,[],path)::attrRows path (la.take i)∧BK g W wr)) (fun _ t _=>downV la.length t)
 case atStart=>exact⟨0,[_],rfl,Nat.zero_le _,Lh ⟨HB1.out.1,rfl,HB1.out.2⟩⟩
 case round=>
  obtain⟨i,M,rfl,hi,HI⟩:=hrel
  clear HB1
  have hi0:=nZ0 i
  by_cases hlt:i< la.length
  ·
   have hlI:(i:Int)< (la.length:Int):=by omega
   obtain⟨gd,od,rfl,lgd,_,x0,x1⟩:=attr_at (HVA.out.ext HI.out.1.ext) i hlt
   have hN:=attr_row path la i hlt
   have hm:=HOK.out _ (List.mem_cons_of_mem _ (show(5,la[i].n,la[i].v,path++([47,64]++la[i].n))∈attrRows path la from List.mem_map.2 ⟨la[i],List.getElem_mem hlt,rfl⟩))
   have hMl:M.length=i+1:=by
    have:=congrArg List.length HI.out.2.1
    unfold attrRows at this
    rw[List.length_map,List.length_cons,List.length_map,List.length_take]at this
    omega
   obtain⟨x,hx⟩:∃x,la[i]=x:=⟨_,rfl⟩
   rw[hx]at x0 x1 hN hm
   clear hx
   have hMlx:=Lh hMl
   obtain⟨P,hP⟩:∃P,path++([47]++([64]++x.n))=P:=⟨_,rfl⟩
   have hP':path++([47,64]++x.n)=P:=hP
   rw[hP']at hN hm
   have hE:Ext wr (wr.alloc (.cells #[.string (bs x.n),.string (bs x.v)] 68)):=(Ext.refl _).alloc _
   have HB:Hid (BS w0 g (wr.alloc (.cells #[.string (bs x.n),.string (bs x.v)] 68)) (L++M)∧BK g W (wr.alloc (.cells #[.string (bs x.n),.string (bs x.v)] 68))∧(L++M).length≤99999999):=Lh ⟨HI.out.1.step hE,HI.out.2.2.trans (BK.ext HI.out.1.lt hE),by rw[List.length_append];omega⟩
   have HBL0:=Lh fun wz (hz:BS w0 g wz (L++M)) W' (hE:Ext wz W')=>(below_any w0 W' g _ L.length path ([64]++x.n) (hz.step hE) (by have:=HB.out.2.2;omega) (by have:=hm.1;have:x.n.length≤1048576:=this;simp only[List.length_append,List.length_cons,List.length_nil];omega) (by
    have hpl:=(HOK.out _ List.mem_cons_self).2.2
    have hmm:=HI.out.2.1
    cases M with
    | nil=>simp at hMl
    | cons q M=>
     rw[List.map_cons]at hmm
     have hq:=(List.cons.inj hmm).1
     refine⟨hpl,fun e=>by omega,fun _=>⟨q,by simp,?_⟩⟩
     exact congrArg (fun r:R4=>r.2.2.2) hq)).mono (R':=fun e w'=>e= .returned (.string (bs P))∧Ext W' w') (fun e w' h=>⟨by rw[h.1,hP],by rw[h.2];exact Ext.refl _⟩)
   have HPU0:=Lh fun wz (hz:BS w0 g wz (L++M)) W' (hE:Ext wz W')=>(put_any w0 W' g _ ⟨5,x.n,x.v,L.length,0,P⟩ (hz.step hE) ⟨hm.1,hm.2.1,hm.2.2⟩ (by have:=HB.out.2.2;omega)).mono (R':=fun e w'=>∃v,e= .returned v∧BS w0 g w' (L++M++ [⟨5,x.n,x.v,L.length,((L++M).length:Int)+1,P⟩])∧BK g wz w') (fun e w' h=>⟨_,h.1,h.2.1,(BK.ext hz.lt hE).trans h.2.2⟩)
   have hxn:x.n.length≤1048576:=hm.1
   have HNM:=Lh (And.intro hN hm)
   clear hN hm hP hP' hMl hE
   go_wp2_with fail
   obtain⟨wz,hwz⟩:∃wz,wr.alloc (.cells #[.string (bs x.n),.string (bs x.v)] 68)=wz:=⟨_,rfl⟩
   have c0:wz.cell? ⟨wr.heap.size,0,none⟩=some (.string (bs x.n)):=by rw[←hwz];simp[go_sem]
   have c1:wz.cell? ⟨wr.heap.size,1,none⟩=some (.string (bs x.v)):=by rw[←hwz];simp[go_sem]
   have hlx:wr.heap.size< wz.heap.size:=by rw[←hwz];simp
   rw[hwz]at HB
   rw[hwz]
   have HBL:=Lh (HBL0.out wz HB.out.1)
   have HPU:=Lh (HPU0.out wz HB.out.1)
   clear HBL0 HPU0 hwz x0 x1
   obtain⟨xb,hxb⟩:∃xb,wr.heap.size=xb:=⟨_,rfl⟩
   rw[hxb]at c0 c1 hlx
   rw[hxb]
   clear hxb
   refine rg_cut (S:=Sx wz) 13 kB kB kB kB (Sx.begin _) ?_
   have hSe:Sx wz (World.drew wz):=(Sx.begin _)
   refine gT 0 26 (.pointer (some ⟨g,0,none⟩)) hSe ?_
   simp only[Act.put,sA,sZ,sS]
   refine gT 1 27 (.pointer (some ⟨xb,0,none⟩)) hSe ?_
   simp only[Act.put,sA,sZ,sS]
   refine gT 2 28 (.string (bs x.n)) hSe ?_ (hv:=fun w' hs=>by(have h0:=hs.cell hlx c0;go_simp))
   simp only[Act.put,sA,sZ,sS]
   refine gT 3 29 (.pointer (some ⟨xb,1,none⟩)) hSe ?_
   simp only[Act.put,sA,sZ,sS]
   refine gT 4 30 (.string (bs x.v)) hSe ?_ (hv:=fun w' hs=>by(have h0:=hs.cell hlx c1;go_simp))
   simp only[Act.put,sA,sZ,sS]
   refine gT 5 31 (.int .i64 L.length) hSe ?_
   simp only[Act.put,sA,sZ,sS]
   refine gT 6 32 (.pointer (some ⟨g,0,none⟩)) hSe ?_
   simp only[Act.put,sA,sZ,sS]
   refine gT 7 33 (.int .i64 L.length) hSe ?_
   simp only[Act.put,sA,sZ,sS]
   refine gT 8 34 (.pointer (some ⟨xb,0,none⟩)) hSe ?_
   simp only[Act.put,sA,sZ,sS]
   refine gT 9 35 (.string (bs x.n)) hSe ?_ (hv:=fun w' hs=>by(have h0:=hs.cell hlx c0;go_simp))
   simp only[Act.put,sA,sZ,sS]
   refine gT 10 36 (.string (bs (([64]:List UInt8)++x.n))) hSe ?_ (hv:=fun w' hs=>by exact exec_sadd (s:=([64]:List UInt8)) (t:=x.n) rfl rfl rfl kW _)
   simp only[Act.put,sA,sZ,sS]
   refine rg_call 11 (some 37) 85 #[.pointer (some ⟨g,0,none⟩),.int .i64 L.length,.string (bs (([64]:List UInt8)++x.n))] rfl rfl kB (by rfl) (fun w'=>by first | rfl | go_simp) (R:=fun v w'=>v= .string (bs P)∧Ext (World.drew wz) w') ?_ ?_
   ·
    refine(HBL.out (World.drew wz) hSe).mono ?_
    rintro e w' ⟨rfl,h⟩
    exact⟨_,rfl,rfl,h⟩
   rintro _ wre1 ⟨rfl,hBre1⟩
   have hSe1:=hSe.ext hBre1
   refine⟨hSe1,?_⟩
   simp only[Act.put,sA,sZ,sS]
   refine gT 12 38 (.agg #[.int .i64 5,.string (bs x.n),.string (bs x.v),.int .i64 L.length,.int .i64 0,.string (bs P)]) hSe1 ?_
   simp only[Act.put,sA,sZ,sS]
   refine rg_done kB ?_
   refine rg_go 1 #[true,true,true,true,true,true,true,true,true,true,true,true,true,false] kB kB fun m=> ?_
   refine rg_call 13 (some 39) 125 #[.pointer (some ⟨g,0,none⟩),.agg #[.int .i64 5,.string (bs x.n),.string (bs x.v),.int .i64 L.length,.int .i64 0,.string (bs P)]] rfl rfl kB (by rfl) (fun w'=>by first | rfl | go_simp) (R:=fun v w'=>BS w0 g w' (L++M++ [⟨5,x.n,x.v,L.length,((L++M).length:Int)+1,P⟩])∧BK g wz w') (HPU.out wre1 hSe1) ?_
   rintro _ w9 ⟨hB9,hK9⟩
   refine⟨trivial,?_⟩
   simp only[Act.put,sA,sZ,sS]
   refine rg_done kB ?_
   have HF:Hid (BS w0 g w9 (L++(M++ [⟨5,x.n,x.v,L.length,((L++M).length:Int)+1,P⟩]))∧(M++ [(⟨5,x.n,x.v,L.length,((L++M).length:Int)+1,P⟩:QN)]).map k4=(1,nm,[],path)::attrRows path (la.take (i+1))∧BK g W w9):=Lh (by
    refine⟨by rw[←List.append_assoc];exact hB9,?_,HB.out.2.1.trans hK9⟩
    rw[List.map_append,HI.out.2.1,HNM.out.1,List.cons_append]
    rfl)
   clear hB9 hK9 HB HI c0 c1
   go_wp2_with fail
   go_roundw
   case rel=>exact⟨i+1,_,by go_num,by omega,HF⟩
   case measure=>exact mZ
  ·
   have hlI:¬(i:Int)< (la.length:Int):=by omega
   have hie:la.take i=la:=List.take_of_length_le kA
   have hF:=HI.out
   rw[hie]at hF
   have HF:=Lh hF
   clear hF hie HI
   go_wp2_with fail
   go_ret
   exact⟨rfl,⟨M,HF.out.1,HF.out.2.1⟩,HF.out.2.2⟩
def decF (v:Nat) (out:Bytes):Bytes:=if v=0 then out else Lib.decDigits v++out
theorem decF_step (v:Nat) (out:Bytes) (h:v≠0):decF v out=decF (v / 10) ([UInt8.ofNat (48+v % 10)]++out):=by
 unfold decF
 rw[if_neg h]
 by_cases h1:v< 10
 ·
  rw[if_pos kA,Lib.decDigits,dif_pos h1]
  have:v % 10=v:=by omega
  rw[this]
 ·
  rw[if_neg kA,Lib.decDigits,dif_neg h1,List.append_assoc]
theorem dec_len:∀(k v:Nat),v< 10 ^ (k+1)→(Lib.decDigits v).length≤k+1
 | 0,v,h=>by
  rw[Lib.decDigits,dif_pos kA];exact Nat.le_refl _
 | k+1,v,h=>by
  rw[Lib.decDigits]
  by_cases h1:v< 10
  ·
   rw[dif_pos h1];simp
  ·
   rw[dif_neg h1,List.length_append]
   have:=dec_len k (v / 10) (by rw[Nat.pow_succ]at h;omega)
   simp only[List.length_cons,List.length_nil]
   omega
theorem ritoa_any (n:Nat) (h:n≤1048576) (w:World):
  Calls Tryz.prog 115 #[.int .i64 n] w fun e w'=>e= .returned (.string (bs (Lib.decDigits n)))∧Ext w w':=by
 have hn0:¬(n:Int)< 0:=by omega
 by_cases hz:n=0
 ·
  subst hz
  go_enter Tryz.func115,Tryz.ntmps115
  go_wp2_with fail
  go_ret
  exact⟨by rw[Lib.decDigits,dif_pos kD];rfl,Ext.refl _⟩
 ·
  have hz':((n:Int)==0)=false:=by rw[beq_eq_false_iff_ne];omega
  have HZ:Hid (decF n []=Lib.decDigits n):=Lh (by unfold decF;rw[if_neg hz,List.append_nil])
  have hdl:=dec_len 7 n kA
  obtain⟨R,hR⟩:∃R,Lib.decDigits n=R:=⟨_,rfl⟩
  rw[hR]at HZ hdl⊢
  clear hz hR
  go_enter Tryz.func115,Tryz.ntmps115
  go_wp2_with fail
  go_loopw [3,4,5] (fun s t _ wr=>∃(v:Nat) (S:Bytes),t= .int .i64 v∧s= .string (bs S)∧v≤1048576∧Hid (decF v S=R)∧Ext w wr) (fun _ t _ _=>match t with | .int _ k=>k.toNat | _=>0)
  case atStart=>exact⟨n,[],rfl,rfl,h,HZ,Ext.refl _⟩
  case round=>
   clear HZ
   obtain⟨v,S,rfl,rfl,hv,HV,hX⟩:=hrel
   have hv0:=nZ0 v
   have hv1:(v:Int)≤1048576:=by omega
   by_cases hv2:v=0
   ·
    subst hv2
    have hSR:S=R:=by have:=HV.out;unfold decF at this;rwa [if_pos rfl]at this
    have q0:(((0:Nat):Int) !=0)=false:=rfl
    have HSR:=Lh hSR
    clear hSR HV
    go_wp2_with fail
    go_ret
    exact⟨by rw[HSR.out];rfl,hX⟩
   ·
    have q0:((v:Int) !=0)=true:=by rw[bne_iff_ne];omega
    have hm0:¬(v:Int) % 10< 0:=by omega
    have hm1:(0:Int)≤48+(v:Int) % 10:=by omega
    have hm2:48+(v:Int) % 10≤57:=by omega
    have hSl:S.length≤8:=by
     have:=HV.out
     unfold decF at this
     rw[if_neg hv2]at this
     have:=congrArg List.length this
     rw[List.length_append]at this
     omega
    have HQ:=Lh (And.intro (decF_step v S hv2) hv2)
    obtain⟨c,hc0⟩:∃c:UInt8,UInt8.ofNat (48+v % 10)=c:=⟨_,rfl⟩
    rw[hc0]at HQ
    have hc:(c.toNat:Int)=48+(v:Int) % 10:=by rw[←hc0,UInt8.toNat_ofNat'];omega
    clear hc0 hv2
    have hcv:(convert 139 9 (.slice (some ⟨wr.heap.size,0,none⟩) 1 1)).run Tryz.prog (wr.alloc (.cells #[.int .u8 (c.toNat:Int)] 5))= .ok (.string (bs [c])) (wr.alloc (.cells #[.int .u8 (c.toNat:Int)] 5)):=run_convert_bytes_back (P:=Tryz.prog) (wr.alloc (.cells #[.int .u8 (c.toNat:Int)] 5)) 139 9 5 ⟨wr.heap.size,0,none⟩ 1 [c] Tryz.underlying139 Tryz.underlying5 Tryz.underlying9 (fun j hj=>by
     obtain rfl:j=0:=by simpa using hj
     simp[go_sem])
    rw[hc]at hcv
    have hsz:¬9223372036854775807< (bs ([c]:Bytes)).size+(bs S).size:=by rw[bs_size,bs_size];simp;omega
    have HX:=Lh hX
    have hcat:bs ([c]:Bytes)++bs S=bs ([c]++S):=by rw[bs_append]
    clear hX hc hSl
    go_wp2_with fail
    go_roundw
    case rel=>exact⟨v / 10,[c]++S,by simp,rfl,by omega,Lh (by rw[←HQ.out.1];exact HV.out),HX.out.alloc _⟩
    case measure=>simp only[];have:=HQ.out.2;omega
theorem rowsN_eq (n:Node) (path:Bytes):rowsN n path=if n.kind=1 then(1,n.name,[],path)::attrRows path n.attrs++rowsC n.kids path 0 else [(n.kind,n.name,n.text,path)]:=by cases n;rw[rowsN];rfl
theorem rowsN_pos (n:Node) (path:Bytes):0< (rowsN n path).length:=by
 rw[rowsN_eq]
 split<;> simp
theorem rowsC_len:∀(ks:List Node) (path:Bytes) (i:Nat),ks.length≤(rowsC ks path i).length
 | [],_,_=>Nat.zero_le _
 | k::r,path,i=>by
  have:=rowsC_len r path (i+1)
  have:=rowsN_pos k (idxPath path i)
  rw[rowsC,List.length_append,List.length_cons]
  omega
theorem itoaX (i:Nat) (h:i< 100) (w:World):Calls Tryz.prog 41 #[.int .i64 (i:Int)] w fun e w'=>e= .returned (.string (bs (itoaS i)))∧w'=w:=Tryz.strconv_Itoa_small i h w
theorem PPat.app {L:List QN} {a:Nat} {pp:Bytes} (h:PPat L a pp) (ha:a< L.length) (M:List QN):PPat (L++M) a pp:=by
 refine⟨h.1,h.2.1,fun h0=> ?_⟩
 obtain⟨q,hq,he⟩:=h.2.2 h0
 exact⟨q,by rw[List.getElem?_append_left ha];exact hq,he⟩
theorem PPat.row {L M:List QN} {P:Bytes} {r:R4} {R:List R4} (h0:0< L.length) (hM:M.map k4=r::R) (hP:r.2.2.2=P) (hl:P.length≤1000000000000):PPat (L++M) L.length P:=by
 refine⟨hl,fun e=>by omega,fun _=> ?_⟩
 cases M with
 | nil=>cases hM
 | cons q M=>
  rw[List.map_cons]at hM
  exact⟨q,by simp,by rw[←hP];exact congrArg (fun r:R4=>r.2.2.2) (List.cons.inj hM).1⟩
theorem set_rows (L M:List QN) (i:Nat) (f:Int) (hi:L.length≤i) (h:i< (L++M).length):∃M',(L++M).set i {(L++M)[i]with fin:=f}=L++M'∧M'.map k4=M.map k4:=by
 refine⟨M.set (i - L.length) {(L++M)[i]with fin:=f},app_set _ _ _ _ hi,?_⟩
 have hj:i - L.length< M.length:=by rw[List.length_append]at h;omega
 rw[List.map_set]
 have e:k4 {(L++M)[i]with fin:=f}=(M.map k4)[i - L.length]'(by rw[List.length_map];exact hj):=by
  rw[List.getElem_map,List.getElem_append_right hi];rfl
 rw[e,List.set_getElem_self]
theorem vcontent_any:∀(N:Nat) (ks:List Node) (w0 W:World) (g:Nat) (L:List QN) (p:Nat→Prop) (vk:Value) (a:Nat) (pp:Bytes),(∀k∈ks,nsz k≤N)→BS w0 g W L→a< L.length→PPat L a pp→(∀r∈rowsC ks pp 0,ok4 r)→
  L.length+(rowsC ks pp 0).length≤90000000→(rowsC ks pp 0).length≤98→Rep w0 p vk (nodesD ks)→
  Calls Tryz.prog 87 #[.pointer (some ⟨g,0,none⟩),vk,.int .i64 a] W fun e w'=>e= .returned (.tuple #[])∧(∃M,BS w0 g w' (L++M)∧M.map k4=rowsC ks pp 0)∧BK g W w':=by
 intro N
 induction N with
 | zero=>
  intro ks w0 W g L p vk a pp hN h ha hpp hok hL h98 hvk
  cases ks with
  | cons k r=>have:=hN k List.mem_cons_self;have:=nsz_pos k;omega
  | nil=>
   obtain⟨ga,gc,rfl,hg1,hg2⟩:=hvk.count z_node kA
   have HF:Hid (BS w0 g W (L++ [])∧BK g W W):=Lh ⟨by rw[List.append_nil];exact h,BK.refl _ _⟩
   have hl0:([]:List Node).length=0:=rfl
   rw[hl0]
   clear h hok hvk hpp
   go_enter Tryz.func87,Tryz.ntmps87
   go_wp2_with fail
   go_loopw [12] (fun t wr=>t= .int .i64 0∧wr=W) (fun t _=>downV 1 t)
   case atStart=>exact⟨rfl,rfl⟩
   case round=>
    obtain⟨rfl,rfl⟩:=hrel
    go_wp2_with fail
    exact bodyPost_end (results_none rfl _ _ _) rfl ⟨rfl,⟨[],HF.out.1,rfl⟩,HF.out.2⟩
 | succ N ih=>
  intro ks w0 W g L p vk a pp hN h ha hpp hok hL h98 hvk
  obtain⟨ga,gc,rfl,hg1,hg2⟩:=hvk.count z_node (by have:=rowsC_len ks pp 0;omega)
  have hks:=rowsC_len ks pp 0
  have hks98:ks.length≤98:=by omega
  obtain⟨R,hR⟩:∃R,rowsC ks pp 0=R:=⟨_,rfl⟩
  rw[hR]at hok hL h98⊢
  have HVK:=Lh hvk
  have HPP:=Lh hpp
  have HOK:=Lh hok
  have HN:=Lh hN
  have IH:=Lh ih
  have H0:Hid (BS w0 g W (L++ [])∧([]:List QN).map k4++rowsC (ks.drop 0) pp 0=R∧BK g W W):=Lh ⟨by rw[List.append_nil];exact h,hR,BK.refl _ _⟩
  clear h hpp hok hvk hN ih hR hks
  go_enter Tryz.func87,Tryz.ntmps87
  go_wp2_with fail
  go_loopw [6,7,8,9,12] (fun _ _ _ _ t wr=>∃(i:Nat) (M:List QN),t= .int .i64 i∧i≤ks.length∧Hid (BS w0 g wr (L++M)∧M.map k4++rowsC (ks.drop i) pp i=R∧BK g W wr)) (fun _ _ _ _ t _=>downV ks.length t)
  case atStart=>exact⟨0,[],rfl,Nat.zero_le _,H0⟩
  case round=>
   clear H0
   obtain⟨i,M,rfl,hi,HI⟩:=hrel
   have hi0:=nZ0 i
   by_cases hlt:i< ks.length
   ·
    have hlI:(i:Int)< (ks.length:Int):=by omega
    obtain⟨gk,ok,xa0,xk0,rfl,lgk,_,d0,d1,d2,d3,d4,hxa,hxk⟩:=node_at HVK.out i hlt
    have hXr:=HI.out.1.ext
    have lgk':=Nat.lt_of_lt_of_le lgk hXr.size
    have e0:=hXr.keep lgk d0
    have e1:=hXr.keep lgk d1
    have e2:=hXr.keep lgk d2
    have e3:=hXr.keep lgk d3
    have e4:=hXr.keep lgk d4
    have hsum:=HI.out.2.1
    rw[drop_one ks i hlt,rowsC]at hsum
    have hNx:=HN.out _ (List.getElem_mem hlt)
    have hkid:=fun k (h:k∈ks[i].kids)=>nsz_mem ks[i] k h
    obtain⟨x,hx⟩:∃x,ks[i]=x:=⟨_,rfl⟩
    rw[hx]at e0 e1 e2 hxa hxk hsum hNx hkid
    clear hx d0 d1 d2 d3 d4 lgk hXr
    obtain⟨P,hP⟩:∃P,idxPath pp i=P:=⟨_,rfl⟩
    obtain⟨T,hT⟩:∃T,rowsC (ks.drop (i+1)) pp (i+1)=T:=⟨_,rfl⟩
    obtain⟨D,hD⟩:∃D,itoaS (i+1)=D:=⟨_,rfl⟩
    have hDl:D.length≤8:=by rw[←hD];exact dec_len 7 (i+1) kA
    have hPD:pp++([47]++([35]++D))=P:=by rw[←hP,←hD];rfl
    rw[hP,hT]at hsum
    have hsl:=congrArg List.length hsum
    rw[List.length_append,List.length_append,List.length_map]at hsl
    have hokN:∀r∈rowsN x P,ok4 r:=fun r hr=>HOK.out r (by rw[←hsum];exact List.mem_append_right _ (List.mem_append_left _ hr))
    have HIT:=Lh fun W=>(show Calls Tryz.prog 41 #[.int .i64 ((i:Int)+1)] W fun e w'=>e= .returned (.string (bs D))∧w'=W by
     have:=itoaX (i+1) kA W
     rw[show((i+1:Nat):Int)=(i:Int)+1 by omega,hD]at this
     exact this)
    obtain⟨xa,xac,rfl,_,_⟩:=hxa.count z_attr kA
    obtain⟨xk,xkc,rfl,_,_⟩:=hxk.count z_node kA
    have HX:=Lh (And.intro hxa hxk)
    have HS:=Lh (And.intro hsum (And.intro hokN (And.intro hPD (And.intro hT hsl))))
    have HNX:Hid (∀k∈x.kids,nsz k≤N):=Lh fun k h=>by have:=hkid k h;omega
    have hg0:¬9223372036854775807< 1+(bs D).size:=by rw[bs_size];omega
    have hc0:(⟨#[35]⟩:ByteArray)++bs D=bs ([35]++D):=by rw[←bs_append];rfl
    clear hxa hxk hsum hokN hPD hP hT hD hsl hkid hNx
    go_wp2_with fail
    refine(HIT.out _).mono ?_
    rintro e wz ⟨rfl,hwz⟩
    have hEz:Ext wr wz:=by rw[hwz];exact(Ext.refl _).alloc _
    have hblk:wz.heap[wr.heap.size]? =some (.cells #[.int .i64 x.kind,.string (bs x.name),.string (bs x.text),.slice xa x.attrs.length xac,.slice xk x.kids.length xkc] 66):=by rw[hwz];exact Array.getElem?_push_size
    have HB:Hid (BS w0 g wz (L++M)∧BK g W wz∧Fb g wz wr.heap.size):=Lh ⟨HI.out.1.step hEz,HI.out.2.2.trans (BK.ext HI.out.1.lt hEz),by rw[hwz];exact HI.out.1.fresh⟩
    obtain⟨xb,hxb⟩:∃xb,wr.heap.size=xb:=⟨_,rfl⟩
    rw[hxb]at hblk HB
    rw[hxb]
    have c0:=blk_cell hblk (k:=0) rfl;have c1:=blk_cell hblk (k:=1) rfl;have c2:=blk_cell hblk (k:=2) rfl;have c3:=blk_cell hblk (k:=3) rfl;have c4:=blk_cell hblk (k:=4) rfl
    have hlM:(L++M).length=L.length+M.length:=List.length_append
    have HBL:=Lh (below_any w0 wz g (L++M) a pp ([35]++D) HB.out.1 (by have:=HS.out.2.2.2.2;omega) (by simp only[List.length_append,List.length_cons,List.length_nil];omega) (HPP.out.app ha M))
    rw[HS.out.2.2.1]at HBL
    clear hwz hxb e0 e1 e2 e3 e4 HIT hEz
    go_wp2_with fail
    refine HBL.out.mono ?_
    rintro e wy ⟨rfl,hwy⟩
    subst hwy
    by_cases hk:x.kind=1
    ·
     have hk1:(x.kind !=1)=false:=by rw[hk];rfl
     have hrN:rowsN x P=(1,x.name,[],P)::attrRows P x.attrs++rowsC x.kids P 0:=by rw[rowsN_eq,if_pos hk]
     have HRN:=Lh hrN
     have hal:(attrRows P x.attrs).length=x.attrs.length:=List.length_map _
     have hrl:(rowsN x P).length=1+x.attrs.length+(rowsC x.kids P 0).length:=by rw[hrN,List.length_append,List.length_cons,hal];omega
     have HEL:=Lh (element_any w0 wy g (L++M) x.name x.attrs p _ a P HB.out.1 kA (by have:=HS.out.2.2.2.2;omega) (fun r hr=>HS.out.2.1 r (by rw[hrN];exact List.mem_append_left _ hr)) HX.out.1)
     have hnl:=HS.out.2.2.2.2
     obtain⟨A,hA⟩:∃A,(L++M).length=A:=⟨_,rfl⟩
     have HA:=Lh hA
     rw[hA]at HEL
     clear hrN hal hA
     go_wp2_with fail
     refine HEL.out.mono ?_
     rintro e w3 ⟨rfl,⟨M1,hB3,hM1⟩,hK3⟩
     have hxlt:=blk_lt hblk
     obtain⟨hkb,hkf⟩:=hK3.keep xb hxlt HB.out.2.2
     have hblk3:w3.heap[xb]? =some (.cells #[.int .i64 x.kind,.string (bs x.name),.string (bs x.text),.slice xa x.attrs.length xac,.slice xk x.kids.length xkc] 66):=hkb.trans hblk
     have hM1l:M1.length=1+x.attrs.length:=by
      have:=congrArg List.length hM1
      unfold attrRows at this
      rw[List.length_map,List.length_cons,List.length_map]at this
      omega
     have HB3:=Lh (And.intro hB3 (And.intro hM1 (HB.out.2.1.trans hK3)))
     have k4c:w3.cell? ⟨xb,4,none⟩=some (.slice xk x.kids.length xkc):=blk_cell hblk3 (k:=4) rfl
     have hl3:((L++M)++M1).length=L.length+M.length+(1+x.attrs.length):=by rw[List.length_append,hlM,hM1l]
     have HCO:=Lh (IH.out x.kids w0 w3 g ((L++M)++M1) p _ (L++M).length P HNX.out HB3.out.1 kA (PPat.row kA HB3.out.2.1 rfl (HS.out.2.1 (1,x.name,[],P) (by rw[HRN.out];exact List.mem_cons_self)).2.2) (fun r hr=>HS.out.2.1 r (by rw[HRN.out];exact List.mem_append_right _ hr)) kA kA HX.out.2)
     have HL3:=Lh (And.intro hl3 (And.intro hlM (And.intro hrl hnl)))
     rw[HA.out]at HCO
     clear hB3 hM1 hK3 HEL hblk hblk3 hkb hkf c0 c1 c2 c3 c4 hl3 hM1l hlM hrl hnl hxlt
     go_wp2_with fail
     refine HCO.out.mono ?_
     rintro e w4 ⟨rfl,⟨M2,hB4,hM2⟩,hK4⟩
     obtain⟨hl3,hlM,hrl,hnl⟩:=HL3.out
     have hM2l:M2.length=(rowsC x.kids P 0).length:=by rw[←hM2,List.length_map]
     have hl4:(((L++M)++M1)++M2).length=L.length+M.length+(1+x.attrs.length)+M2.length:=by rw[List.length_append,hl3]
     have hA:=HA.out
     have hal:A< (((L++M)++M1)++M2).length:=by omega
     have HSH:=Lh (shut_any w0 w4 g _ A hB4 hal kA)
     have HB4:=Lh (And.intro hM2 (HB3.out.2.2.trans hK4))
     have HL4:=Lh (And.intro hal hlM)
     clear hB4 hM2 hK4 HCO k4c hl3 hlM hrl hnl hM2l hl4 hA
     go_wp2_with fail
     refine HSH.out.mono ?_
     rintro e w5 ⟨rfl,hB5,hK5⟩
     have HF:Hid (∃M',BS w0 g w5 (L++M')∧M'.map k4++rowsC (ks.drop (i+1)) pp (i+1)=R∧BK g W w5):=Lh (by
      obtain⟨hal,hlM⟩:=HL4.out
      have ea:((L++M)++M1)++M2=L++(M++(M1++M2)):=by simp only[List.append_assoc]
      obtain⟨M',h1,h2⟩:=set_rows L (M++(M1++M2)) A ((((L++M)++M1)++M2).length:Nat) (by have:=HA.out;omega) (by rw[←ea];exact hal)
      refine⟨M',?_,?_,HB4.out.2.trans hK5⟩
      ·
       rw[←h1]
       simp only[←ea]
       exact hB5
      ·
       rw[h2,HS.out.2.2.2.1,←HS.out.1,HRN.out,List.map_append,List.map_append,HB3.out.2.1,HB4.out.1]
       simp only[List.append_assoc])
     clear hB5 hK5 HSH HB HB3 HB4 HI
     obtain⟨M',hM'⟩:=HF.out
     have HF:=Lh hM'
     clear hM'
     go_wp2_with fail
     go_roundw
     case rel=>exact⟨i+1,M',by go_num,by omega,HF⟩
     case measure=>exact mZ
    ·
     have hk1:(x.kind !=1)=true:=by rw[bne_iff_ne];exact hk
     have hrN:rowsN x P= [(x.kind,x.name,x.text,P)]:=by rw[rowsN_eq,if_neg hk]
     have hq:=HS.out.2.1 (x.kind,x.name,x.text,P) (by rw[hrN];exact List.mem_cons_self)
     have HPU:=Lh (put_any w0 wy g (L++M) ⟨x.kind,x.name,x.text,a,0,P⟩ HB.out.1 ⟨hq.1,hq.2.1,hq.2.2⟩ (by have:=HS.out.2.2.2.2;omega))
     have HRN:=Lh hrN
     clear hrN hq hk
     go_wp2_with fail
     refine HPU.out.mono ?_
     rintro e w3 ⟨rfl,hB3,hK3⟩
     have HF:Hid (BS w0 g w3 (L++(M++ [⟨x.kind,x.name,x.text,a,((L++M).length:Int)+1,P⟩]))∧(M++ [(⟨x.kind,x.name,x.text,a,((L++M).length:Int)+1,P⟩:QN)]).map k4++rowsC (ks.drop (i+1)) pp (i+1)=R∧BK g W w3):=Lh (by
      refine⟨by rw[←List.append_assoc];exact hB3,?_,HB.out.2.1.trans hK3⟩
      rw[HS.out.2.2.2.1,←HS.out.1,HRN.out,List.map_append,List.append_assoc]
      rfl)
     clear hB3 hK3 HPU HB HI hblk c0 c1 c2 c3 c4
     go_wp2_with fail
     go_roundw
     case rel=>exact⟨i+1,_,by go_num,by omega,HF⟩
     case measure=>exact mZ
   ·
    have hlI:¬(i:Int)< (ks.length:Int):=by omega
    have hF:=HI.out
    rw[List.drop_of_length_le kA,rowsC,List.append_nil]at hF
    have HF:=Lh hF
    clear hF HI
    go_wp2_with fail
    exact bodyPost_end (results_none rfl _ _ _) rfl ⟨rfl,⟨M,HF.out.1,HF.out.2.1⟩,HF.out.2.2⟩
open Go.RowKit Go.Shelf
attribute [local go_sem] Oper.semAt_some
theorem vhas_any (l:List Span) (n:Int) (p:Nat→Prop) (v:Value) (w:World) (h:Rep w p v (spansD l)):
    Calls Tryz.prog 48 #[v,.int .i64 n] w fun e w'=>e= .returned (.bool (ahas l n))∧Ext w w':=by
  have HC:=Lh (ihas_any l n p v w h)
  obtain⟨a,c,rfl,hc1,hc2⟩:=h.count z_span kA
  unfold ahas
  obtain⟨A,hA⟩:∃A,hasV l n=A:=⟨_,rfl⟩
  rw[hA]at HC⊢
  clear hA h
  by_cases h0:l.length=0
  · have q0:((l.length:Int)==0)=true:=by rw[h0];rfl
    rw[if_pos h0]
    clear h0
    go_enter Tryz.func48,Tryz.ntmps48
    go_wp2_with fail
    first
      | (go_ret;exact⟨rfl,Ext.refl _⟩)
      | (refine HC.out.mono ?_
         rintro e w1 ⟨rfl,hX⟩
         go_wp2_with fail
         go_ret
         exact⟨rfl,hX⟩)
  · have q0:((l.length:Int)==0)=false:=by rw[beq_eq_false_iff_ne];omega
    rw[if_neg h0]
    clear h0
    go_enter Tryz.func48,Tryz.ntmps48
    go_wp2_with fail
    refine HC.out.mono ?_
    rintro e w1 ⟨rfl,hX⟩
    go_wp2_with fail
    go_ret
    exact⟨rfl,hX⟩
structure PRec where
  i:Nat
  pt:Part
  x:Value
  y:Value
  z:Value
def OkP (w0:World) (p:Nat→Prop) (r:PRec):Prop:=(∃a c,r.x= .slice a r.pt.vers.length c)∧(∃a c,r.y= .slice a r.pt.attrs.length c)∧(∃a c,r.z= .slice a r.pt.kids.length c)∧Rep w0 p r.x (spansD r.pt.vers)∧Rep w0 p r.y (attrsD r.pt.attrs)∧Rep w0 p r.z (nodesD r.pt.kids)
abbrev PX (w0:World) (p:Nat→Prop):={r:PRec // OkP w0 p r}
def encPX {w0:World} {p:Nat→Prop} (r:PX w0 p):Array Value:= #[.int .i64 r.1.i,.agg #[r.1.x,r.1.y,r.1.z]]
def KpX (x:Nat) (W W':World):Prop:=W.heap.size≤W'.heap.size∧∀(k:Nat) (cs:Array Value) (t:TypeId) (fz:Nat×Nat),k≠x→W.heap[k]? =some (.cells cs t fz)→W'.heap[k]? =some (.cells cs t fz)
theorem KpX.refl (x:Nat) (W:World):KpX x W W:=⟨Nat.le_refl _,fun _ _ _ _ _ h=>h⟩
theorem KpX.trans {x:Nat} {A B C:World} (h:KpX x A B) (k:KpX x B C):KpX x A C:=⟨Nat.le_trans h.1 k.1,fun i cs t fz n e=>k.2 i cs t fz n (h.2 i cs t fz n e)⟩
theorem KpX.ext {x:Nat} {A B:World} (h:Ext A B):KpX x A B:=⟨h.size,fun i cs t fz _ e=>(Below.block h i (Array.getElem?_eq_some_iff.1 e).1).trans e⟩
theorem KpX.cell {x:Nat} {A B:World} (h:KpX x A B) {k j:Nat} {u:Value} (hk:k≠x) (hc:A.cell? ⟨k,j,none⟩=some u):B.cell? ⟨k,j,none⟩=some u:=by
  cases e:A.heap[k]? with
  | none=>simp[World.cell?,e]at hc
  | some o=>
    cases o with
    | cells cs t fz=>
      have:=h.2 k cs t fz hk e
      unfold World.cell? at hc⊢
      rw[this]
      rw[e]at hc
      exact hc
    | _=>simp[World.cell?,e]at hc
theorem ext_none {A B:World} (hB:Ext A B):A.grownBy B none:=⟨hB.os,hB.tape,hB.output,hB.size,fun i hi _=>Below.block hB i hi⟩
theorem blk_new (w:World) (o:Obj):(w.alloc o).heap[w.heap.size]? =some o:=Array.getElem?_push_size
theorem blk_ext {W W':World} {g:Nat} {o:Obj} (h:W.heap[g]? =some o) (hX:Ext W W'):W'.heap[g]? =some o:=(Below.block hX g (blk_lt h)).trans h
theorem part_recs {w0:World} {p:Nat→Prop}:∀{ps:List Part} {a:Option Addr} {c:Nat},Rep w0 p (.slice a ps.length c) (partsD ps)→∃E:List (PX w0 p),E.map (·.1.pt)=ps∧(∀(j:Nat) (h:j< E.length),E[j].1.i=j)∧
    (0< ps.length→∃g o,a=some ⟨g,o,none⟩∧g< w0.heap.size∧∀(j:Nat) (h:j< E.length),w0.cell? ⟨g,o+j*3,none⟩=some E[j].1.x∧w0.cell? ⟨g,o+j*3+1,none⟩=some E[j].1.y∧w0.cell? ⟨g,o+j*3+2,none⟩=some E[j].1.z):=by
  intro ps a c h
  have h1:∀n,n≤ps.length→∃E:List (PX w0 p),E.length=n∧E.map (·.1.pt)=ps.take n∧(∀(j:Nat) (hj:j< E.length),E[j].1.i=j)∧
      ∀g o,a=some ⟨g,o,none⟩→∀(j:Nat) (hj:j< E.length),w0.cell? ⟨g,o+j*3,none⟩=some E[j].1.x∧w0.cell? ⟨g,o+j*3+1,none⟩=some E[j].1.y∧w0.cell? ⟨g,o+j*3+2,none⟩=some E[j].1.z:=by
    intro n
    induction n with
    | zero=>intro _;exact⟨[],rfl,by simp,fun j hj=>absurd hj (Nat.not_lt_zero _),fun _ _ _ j hj=>absurd hj (Nat.not_lt_zero _)⟩
    | succ n ih=>
      intro hn
      obtain⟨E,e1,e2,e3,e4⟩:=ih kA
      obtain⟨b,off,x,y,z,ha,hb,_,c0,c1,c2,r0,r1,r2⟩:=part_at h n kA
      obtain⟨xa,xc,hx,_,_⟩:=r0.count z_span kA
      obtain⟨ya,yc,hy,_,_⟩:=r1.count z_attr kA
      obtain⟨za,zc,hz,_,_⟩:=r2.count z_node kA
      refine⟨E++ [⟨⟨n,ps[n],x,y,z⟩,⟨xa,xc,hx⟩,⟨ya,yc,hy⟩,⟨za,zc,hz⟩,r0,r1,r2⟩],by rw[List.length_append,e1];rfl,?_,fun j hj=> ?_,fun g o hgo j hj=> ?_⟩
      · rw[List.map_append,e2,List.take_succ_eq_append_getElem kA];rfl
      · by_cases hjn:j< E.length
        · rw[List.getElem_append_left hjn];exact e3 j hjn
        · have:j=E.length:=by rw[List.length_append]at hj;simp at hj;omega
          subst this
          simp[e1]
      · by_cases hjn:j< E.length
        · rw[List.getElem_append_left hjn];exact e4 g o hgo j hjn
        · have hje:j=n:=by rw[List.length_append]at hj;simp at hj;omega
          rw[ha]at hgo
          cases hgo
          have:(E++ [(⟨⟨n,ps[n],x,y,z⟩,⟨xa,xc,hx⟩,⟨ya,yc,hy⟩,⟨za,zc,hz⟩,r0,r1,r2⟩:PX w0 p)])[j]=⟨⟨n,ps[n],x,y,z⟩,⟨xa,xc,hx⟩,⟨ya,yc,hy⟩,⟨za,zc,hz⟩,r0,r1,r2⟩:=by
            rw[List.getElem_append_right kA]
            simp
          rw[this,hje]
          exact⟨c0,c1,c2⟩
  obtain⟨E,e1,e2,e3,e4⟩:=h1 ps.length (Nat.le_refl _)
  refine⟨E,by rw[e2,List.take_length],e3,fun hp=> ?_⟩
  obtain⟨b,off,_,_,_,ha,hb,_⟩:=part_at h 0 hp
  exact⟨b,off,ha,hb,e4 b off ha⟩
theorem bw_any (a:Option Addr) (n c:Nat) (w:World):Calls Tryz.prog 83 #[.slice a n c] w fun e w'=>e= .returned (.func (.func 124) #[] #[.pointer (some ⟨w.heap.size,0,none⟩)])∧w'.heap[w.heap.size]? =some (.cells [.slice a n c].toArray 29 (0,0))∧Ext w w':=by
  go_enter Tryz.func83,Tryz.ntmps83
  go_wp2_with fail
  go_ret
  exact⟨rfl,blk_new w _,(Ext.refl _).alloc _⟩
attribute [local go_sem] Oper.semAt_some
theorem bw_stops {w0:World} {p:Nat→Prop} (n:Nat) (hn:1≤n) (x8:Nat) (E:List (PX w0 p)) (a:Option Addr) (c:Nat) (Bb:Nat) (w:World) (hE0:Ext w0 w) (hl:E.length≤9223372036854775807) (hb:w.heap[Bb]? =some (.cells [.slice a E.length c].toArray 29 (0,0))) (hi:∀(j:Nat) (h:j< E.length),E[j].1.i=j)
  (hc:0< E.length→∃g o,a=some ⟨g,o,none⟩∧g< w0.heap.size∧∀(j:Nat) (h:j< E.length),w0.cell? ⟨g,o+j*3,none⟩=some E[j].1.x∧w0.cell? ⟨g,o+j*3+1,none⟩=some E[j].1.y∧w0.cell? ⟨g,o+j*3+2,none⟩=some E[j].1.z)
  (hne:Bb≠x8) (hx8:w0.heap.size≤x8):
  SeqStopsK Fence.wide n Tryz.prog 124 #[.pointer (some ⟨Bb,0,none⟩)] (encPX (w0:=w0) (p:=p)) (KpX x8) (fun ys=>ys=E.reverse) (fun ys=>ys<+:E.reverse) E.length w:=fun l J Jx W hW hJ hJx hY h0=>by
 have hE:Ext w W:=hW
 have HJ:=Lh fun(pre:List (PX w0 p)) (A B:World) (hj:J pre A) (hX:Ext A B)=>hJ pre A B none hj (ext_none hX) (fun r e=>by cases e)
 have HY:=Lh hY
 have H0:=Lh h0
 have HCC:Hid (∀A,KpX x8 W A→A.cell? ⟨Bb,0,none⟩=some (.slice a E.length c)∧(0< E.length→∃g o,a=some ⟨g,o,none⟩∧∀(j:Nat) (h:j< E.length),A.cell? ⟨g,o+j*3,none⟩=some E[j].1.x∧A.cell? ⟨g,o+j*3+1,none⟩=some E[j].1.y∧A.cell? ⟨g,o+j*3+2,none⟩=some E[j].1.z)):=Lh fun A hA=>by
  refine⟨hA.cell hne (blk_cells (blk_ext hb hE) 0 rfl),fun h=> ?_⟩
  obtain⟨g,o,e1,e2,e3⟩:=hc h
  refine⟨g,o,e1,fun j hj=> ?_⟩
  obtain⟨f1,f2,f3⟩:=e3 j hj
  have hXX:=hE0.trans hE
  exact⟨hA.cell kA (hXX.keep e2 f1),hA.cell kA (hXX.keep e2 f2),hA.cell kA (hXX.keep e2 f3)⟩
 have HI:=Lh hi
 clear hW hJ hJx hY h0 hE hb hi hc hE0
 have b0:=(HCC.out W (KpX.refl _ _)).1
 have hlI:(E.length:Int)≤9223372036854775807:=by omega
 refine callsIn_of_wp Tryz.func124 rfl trivial ?_ rfl
 simp only[Tryz.ntmps124,List.size_toArray,List.length_cons,List.length_nil,Nat.reduceAdd,Nat.reduceSub,Array.replicate_succ,Array.replicate_zero,List.push_toArray,List.append_toArray,List.nil_append,List.cons_append]
 gi_wp2_with fail
 clear b0
 gi_loopw [3] (fun t wr=>∃k:Nat,t= .int .i64 ((E.length:Int) - 1 - k)∧k≤E.length∧Hid (J (E.reverse.take k) wr)∧Hid (KpX x8 W wr)) (fun t _=>(match t with | .int _ q=>(q+1).toNat | _=>0))
 case atStart=>exact⟨0,by simp,Nat.zero_le _,by rw[List.take_zero];exact H0,Lh (KpX.refl _ _)⟩
 case round=>
  obtain⟨k,rfl,hk,HJI,HK⟩:=hrel
  clear H0
  by_cases hlt:k< E.length
  ·
   obtain⟨j,hj⟩:∃j:Nat,E.length - 1 - k=j:=⟨_,rfl⟩
   have hjI:(E.length:Int) - 1 - (k:Int)=(j:Int):=by omega
   have hj0:=nZ0 j
   have hjl:j< E.length:=by omega
   have hjL:(j:Int)< (E.length:Int):=by omega
   obtain⟨b0,hcc⟩:=HCC.out wr HK.out
   obtain⟨g,o,rfl,hcells⟩:=hcc kA
   obtain⟨c0,c1,c2⟩:=hcells j hjl
   have hij:=HI.out j hjl
   have hrev:E.reverse[k]'(by rw[List.length_reverse];exact hlt)=E[j]:=by rw[List.getElem_reverse];congr 1
   have htk:E.reverse.take (k+1)=E.reverse.take k++ [E[j]]:=by rw[List.take_succ_eq_append_getElem (by rw[List.length_reverse];exact hlt),hrev]
   have hpl:(E.reverse.take k).length< E.length:=by rw[List.length_take,List.length_reverse];omega
   have hpre:(E.reverse.take k++ [E[j]])<+:E.reverse:=by rw[←htk];exact List.take_prefix _ _
   obtain⟨x,hx⟩:∃x,E[j]=x:=⟨_,rfl⟩
   rw[hx]at c0 c1 c2 hij htk hpre
   obtain⟨⟨xi,xp,xx,xy,xz⟩,hok⟩:=x
   dsimp only at c0 c1 c2 hij
   subst hij
   obtain⟨⟨xa,xc,hxx⟩,⟨ya,yc,hyy⟩,⟨za,zc,hzz⟩,hrest⟩:=hok.elim fun h1 h2=>(⟨h1,h2.1,h2.2.1,True.intro⟩:(∃a c,xx= .slice a xp.vers.length c)∧(∃a c,xy= .slice a xp.attrs.length c)∧(∃a c,xz= .slice a xp.kids.length c)∧True)
   have HN:=Lh (And.intro htk (And.intro hpl hpre))
   obtain⟨fn,tmps,asg,body,hy,hR⟩:=HY.out (E.reverse.take k) ⟨⟨xi,xp,xx,xy,xz⟩,hok⟩ wr HJI.out hpl
   unfold encPX at hy
   dsimp only at hy
   have HM:Hid (((E.length:Int) - 1 - k+1).toNat=xi+1∧(((E.length:Int) - 1 - k) - 1=(E.length:Int) - 1 - ((k+1:Nat):Int))):=Lh ⟨by omega,by omega⟩
   rw[hjI]
   subst hxx hyy hzz
   clear hrest hrev htk hpl hpre hcc hcells hx HJI hjI
   gi_wp2_with fail
   refine hR.mono ?_
   rintro e w6 (⟨rfl,hJ6,hk6⟩ | ⟨rfl,hJx6⟩)
   ·
    have HJ6:=Lh hJ6
    have HK6:=Lh (HK.out.trans hk6)
    rw[←HN.out.1]at HJ6
    clear hJ6 hk6 hR hy c0 c1 c2 b0
    gi_wp2_with fail
    go_roundw
    case rel=>exact⟨k+1,by first | (congr 1;omega) | (simp only[Value.int.injEq];omega),by omega,HJ6,HK6⟩
    case measure=>simp only[];omega
   ·
    have HJ6:=Lh hJx6
    clear hJx6 hR hy c0 c1 c2 b0
    gi_wp2_with fail
    refine bodyPost_ret (results_none rfl _ _ _) rfl ?_
    exact⟨⟨_,rfl⟩,.inr ⟨_,HN.out.2.2,HJ6.out⟩⟩
  ·
   have hjI:(E.length:Int) - 1 - (k:Int)= -1:=by omega
   rw[hjI]
   have hke:E.reverse.take k=E.reverse:=List.take_of_length_le (by rw[List.length_reverse];omega)
   rw[hke]at HJI
   gi_wp2_with fail
   go_end0
   exact⟨⟨_,rfl⟩,.inl ⟨_,rfl,HJI.out⟩⟩
end Go.Proofs.YtngmgjodcnknoaaGreatDoor
