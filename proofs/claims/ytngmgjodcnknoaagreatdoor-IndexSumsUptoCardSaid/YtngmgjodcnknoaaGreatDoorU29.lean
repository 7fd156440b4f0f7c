/-
 index:New. Helper lemmas;no statement of the seat is proved here.
-/
import Derived.Test.YtngmgjodcnknoaaGreatDoorU27
import Derived.Test.YtngmgjodcnknoaaGreatDoorU28
import Derived.Test.YtngmgjodcnknoaaGreatDoorU26
namespace Go.Proofs.YtngmgjodcnknoaaGreatDoor
open Go.RowKit
set_option maxHeartbeats 32000000
set_option maxRecDepth 100000
set_option linter.unusedVariables false
set_option linter.unusedSimpArgs false
theorem IK.cell {base bx:Nat} {w w':World} (h:IK base bx w w') {b o:Nat} {u:Value} (hb:b≠bx) (hc:w.cell? ⟨b,o,none⟩=some u):w'.cell? ⟨b,o,none⟩=some u:=by
 cases e:w.heap[b]? with
 | none=>simp[World.cell?,e]at hc
 | some ob=>
  cases ob with
  | cells cs t fz=>rw[←hc];exact World.cell?_of_block ((h.cells b cs t fz hb e).trans e.symm)
  | _=>simp[World.cell?,e]at hc
theorem IXS.ext {base:Nat} {w w':World} {bx:Nat} {PS:List IR} (h:IXS base w bx PS) (hE:Ext w w'):IXS base w' bx PS:=by
 obtain⟨bo,Q,B,M,V,hG,hQ⟩:=h
 exact⟨bo,Q,B,M,V,hG.ext hE,hQ⟩
theorem qnV_get:∀(L:List QN) (j:Nat) (h:j< L.length),(L.flatMap qnV)[j*6]? =some (.int .i64 L[j].kind)∧(L.flatMap qnV)[j*6+1]? =some (.string (bs L[j].name))∧(L.flatMap qnV)[j*6+2]? =some (.string (bs L[j].text))∧(L.flatMap qnV)[j*6+3]? =some (.int .i64 L[j].par)∧(L.flatMap qnV)[j*6+4]? =some (.int .i64 L[j].fin)∧(L.flatMap qnV)[j*6+5]? =some (.string (bs L[j].path))
 | [],_,h=>absurd h (Nat.not_lt_zero _)
 | s::r,0,_=>⟨rfl,rfl,rfl,rfl,rfl,rfl⟩
 | s::r,j+1,h=>by
  obtain⟨h1,h2,h3,h4,h5,h6⟩:=qnV_get r j kJ
  have e:(s::r).flatMap qnV= .int .i64 s.kind:: .string (bs s.name):: .string (bs s.text):: .int .i64 s.par:: .int .i64 s.fin:: .string (bs s.path)::r.flatMap qnV:=rfl
  rw[e,show(j+1)*6=j*6+1+1+1+1+1+1 by omega]
  exact⟨by simpa using h1,by simpa using h2,by simpa using h3,by simpa using h4,by simpa using h5,by simpa using h6⟩
def tabA (n:ANode) (i:Nat):List IR:=(((6:Int),([]:Bytes),([]:Bytes),([47]:Bytes))::rowsA ((i:Int)+1) n []).map fun r=>((i:Int)+1,r)
def psA (n:ANode):Nat→List IR
 | 0=> []
 | i+1=>psA n i++tabA n i
theorem psA_v (n:ANode):∀(i:Nat),∀x∈psA n i,1≤x.1∧x.1≤(i:Int)
 | 0,x,h=>by cases h
 | i+1,x,h=>by
  rw[psA]at h
  rcases List.mem_append.1 h with h | h
  ·
   have:=psA_v n i x h;omega
  ·
   obtain⟨r,_,rfl⟩:=List.mem_map.1 h
   simp only
   omega
theorem psA_len (n:ANode):∀(i:Nat),(∀j,j< i→(rowsA ((j:Int)+1) n []).length≤99)→(psA n i).length≤100*i
 | 0,_=>Nat.le_refl _
 | i+1,h=>by
  have h1:=psA_len n i fun j hj=>h j kA
  have h2:=h i kA
  rw[psA,List.length_append]
  unfold tabA
  rw[List.length_map,List.length_cons]
  omega
structure ArOk (n:ANode) (N:Nat):Prop where
 few:N≤12
 has:∀i,i< N→ahas n.vers ((i:Int)+1)=true
 ok:∀i,i< N→∀r∈rowsA ((i:Int)+1) n [],ok4 r∧1≤r.1∧r.1≤9
 len:∀i,i< N→(rowsA ((i:Int)+1) n []).length≤99
theorem xnew_any (n:ANode) (N:Nat) (last:Int) (hlast:last=N) (hA:ArOk n N) (p:Nat→Prop) (ra:Option Addr) (rn rc:Nat) (ka va pa ca:Option Addr) (kc vc pc cc:Nat) (w:World)
  (hk:Rep w p (.slice ka n.key.length kc) (strsD n.key)) (hvs:Rep w p (.slice va n.vers.length vc) (spansD n.vers)) (hp:Rep w p (.slice pa n.parts.length pc) (partsD n.parts)) (hc:Rep w p (.slice ca n.kids.length cc) (anodesD n.kids)):
  Calls Tryz.prog 8 #[.slice ra rn rc,.agg #[.int .i64 last,.string (bs n.name),.slice ka n.key.length kc,.slice va n.vers.length vc,.slice pa n.parts.length pc,.slice ca n.kids.length cc]] w fun e w'=>(∃bx,e= .returned (.pointer (some ⟨bx,0,none⟩))∧IXS w.heap.size w' bx (psA n N))∧Ext w w':=by
 obtain⟨wz,hwz⟩:∃X,w.alloc (.cells #[.int .i64 last,.string (bs n.name),.slice ka n.key.length kc,.slice va n.vers.length vc,.slice pa n.parts.length pc,.slice ca n.kids.length cc] 34)=X:=⟨_,rfl⟩
 have hE:Ext w wz:=by rw[←hwz];exact(Ext.refl _).alloc _
 have hb:wz.heap[w.heap.size]? =some (.cells [.int .i64 last,.string (bs n.name),.slice ka n.key.length kc,.slice va n.vers.length vc,.slice pa n.parts.length pc,.slice ca n.kids.length cc].toArray 34 (0,0)):=by rw[←hwz];exact blk_new w _
 obtain⟨wm,hwm⟩:∃X,wz.alloc (.map #[] 0)=X:=⟨_,rfl⟩
 have hEm:Ext wz wm:=by rw[←hwm];exact(Ext.refl _).alloc _
 have hnew:MapE Tryz.prog TS wm wz.heap.size []:=by rw[←hwm];exact MapE.made wz _ _
 obtain⟨wx,hwx⟩:∃X,wm.alloc (.cells #[.map (some wz.heap.size),.int .i64 0] 75)=X:=⟨_,rfl⟩
 have hEx:Ext wm wx:=by rw[←hwx];exact(Ext.refl _).alloc _
 have hbx:wx.heap[wm.heap.size]? =some (.cells [.map (some wz.heap.size),.int .i64 0].toArray 75 (0,0)):=by rw[←hwx];exact blk_new wm _
 have hs0:w.heap.size≤wz.heap.size:=hE.size
 have hs1:wz.heap.size≤wm.heap.size:=hEm.size
 have hs2:wm.heap.size≤wx.heap.size:=hEx.size
 have hI0:IXS w.heap.size wx wm.heap.size []:=⟨wz.heap.size,[],fun _=>0,fun _=> [],fun _ _=> .nilIface,⟨hbx,by omega,hs0,hnew.block (Below.block hEx _ hnew.lt),List.nodup_nil,fun x hx=>by(cases hx),fun x hx=>by(cases hx),fun x hx=>by(cases hx),fun x hx=>by(cases hx),fun x hx=>by(cases hx),fun x hx=>by(cases hx),fun x hx=>by(cases hx)⟩,fun x hx=>by(cases hx)⟩
 have hE0:Ext w wx:=(hE.trans hEm).trans hEx
 have hba:wx.heap[w.heap.size]? =some (.cells [.int .i64 last,.string (bs n.name),.slice ka n.key.length kc,.slice va n.vers.length vc,.slice pa n.parts.length pc,.slice ca n.kids.length cc].toArray 34 (0,0)):=blk_ext (blk_ext hb hEm) hEx
 obtain⟨bx,hbxe⟩:∃b,wm.heap.size=b:=⟨_,rfl⟩
 rw[hbxe]at hI0
 have hne:w.heap.size≠bx:=by have:=blk_lt hb;omega
 have HI0:=Lh (And.intro hI0 (And.intro hE0 (And.intro hba hne)))
 have HA:=Lh hA
 have HR:=Lh (And.intro hk (And.intro hvs (And.intro hp hc)))
 have HLS:=Lh hlast
 have hN12:(N:Int)≤12:=by have:=hA.few;omega
 have hmm:= @run_makeMap Tryz.prog
 clear hk hvs hp hc hE hb hEm hnew hEx hbx hs0 hs1 hs2 hI0 hE0 hba hA hne hlast
 go_enter Tryz.func8,Tryz.ntmps8
 go_wp2_with fail
 clear hbxe
 go_loopw [6] (fun t wr=>∃i:Nat,t= .int .i64 ((i:Int)+1)∧i≤N∧Hid (IXS w.heap.size wr bx (psA n i)∧IK w.heap.size bx wx wr∧Ext w wr)) (fun t _=>downV (N+1) t)
 case atStart=>exact⟨0,rfl,Nat.zero_le _,Lh ⟨HI0.out.1,IK.refl _ _ _,HI0.out.2.1⟩⟩
 case round=>
  obtain⟨i,rfl,hi,HI⟩:=hrel
  have hb0:=HI.out.2.1.cells _ _ _ _ HI0.out.2.2.2 HI0.out.2.2.1
  have c0:=blk_cell hb0 (k:=0) rfl;have c1:=blk_cell hb0 (k:=1) rfl;have c2:=blk_cell hb0 (k:=2) rfl;have c3:=blk_cell hb0 (k:=3) rfl;have c4:=blk_cell hb0 (k:=4) rfl;have c5:=blk_cell hb0 (k:=5) rfl
  have hi0:=nZ0 i
  obtain⟨wo,hwo⟩:∃wo,wo=wr:=⟨_,rfl⟩
  subst hwo
  by_cases hlt:i< N
  ·
   have hlI:((i:Int)+1)≤last:=by have:=HLS.out;omega
   have HAT:=Lh (vat_any ((i:Int)+1) last n p ra rn rc ka va pa ca kc vc pc cc wo kA hlI (HA.out.has i hlt) (fun r hr=>(HA.out.ok i hlt r hr).1) (HA.out.len i hlt) (HR.out.1.ext HI.out.2.2) (HR.out.2.1.ext HI.out.2.2) (HR.out.2.2.1.ext HI.out.2.2) (HR.out.2.2.2.ext HI.out.2.2))
   have HLT:=Lh hlt
   clear hb0 hlt
   go_wp2_with fail
   refine HAT.out.mono ?_
   rintro e w2 ⟨⟨rv,M,rfl,hrow,hM,hqF⟩,hX⟩
   obtain⟨da,dc,rfl⟩:=own_slice hrow
   have hbl:bx< wo.heap.size:=by obtain⟨bo,Q,B,M,V,hG,_⟩:=HI.out.1;exact blk_lt hG.box
   have HI2:Hid (IXS w.heap.size w2 bx (psA n i++(M.take 0).map fun q=>((i:Int)+1,k4 q))∧IK w.heap.size bx w2 w2∧Ext w w2∧IK w.heap.size bx wx w2):=Lh ⟨by rw[List.take_zero,List.map_nil,List.append_nil];exact HI.out.1.ext hX,IK.refl _ _ _,HI.out.2.2.trans hX,HI.out.2.1.ext HI0.out.2.1.size hX⟩
   have HM:=Lh (And.intro hM (And.intro hqF (And.intro hrow hbl)))
   have HMk:Hid (∀q∈M,1≤q.kind∧q.kind≤9):=Lh fun q hq=>by
    have h1:k4 q∈M.map k4:=List.mem_map.2 ⟨q,hq,rfl⟩
    rw[hM]at h1
    rcases List.mem_cons.1 h1 with e | h1
    ·
     have:q.kind=6:=congrArg Prod.fst e
     omega
    ·
     exact(HA.out.ok i HLT.out _ h1).2
   have hMl:M.length≤100:=by
    have:=congrArg List.length hM
    rw[List.length_map,List.length_cons]at this
    have:=HA.out.len i HLT.out
    omega
   have HPL:Hid ((psA n i).length≤100*12):=Lh (by
    have:=psA_len n i fun j hj=>HA.out.len j (by have:=HLT.out;omega)
    have:=HA.out.few
    omega)
   clear hrow hM hqF hX hbl HAT c0 c1 c2 c3 c4 c5
   go_wp2_with fail
   go_loopw [29] (fun t wr=>∃j:Nat,t= .int .i64 j∧j≤M.length∧Hid (IXS w.heap.size wr bx (psA n i++(M.take j).map fun q=>((i:Int)+1,k4 q))∧IK w.heap.size bx w2 wr∧Ext w wr∧IK w.heap.size bx wx wr)) (fun t _=>downV M.length t)
   case atStart=>exact⟨0,rfl,Nat.zero_le _,HI2⟩
   case round=>
    clear HI2
    obtain⟨j,rfl,hj,HJ⟩:=hrel
    have hj0:=nZ0 j
    obtain⟨wq,hwq⟩:∃wq,wq=wr:=⟨_,rfl⟩
    subst hwq
    by_cases hjt:j< M.length
    ·
     have hjI:(j:Int)< (M.length:Int):=by omega
     obtain⟨g,cc',hsl,hgb,hgl⟩:=own_pos HM.out.2.2.1 kA
     cases hsl
     have hgx:g≠bx:=by have:=HM.out.2.2.2;omega
     obtain⟨g0,g1,g2,g3,g4,g5⟩:=qnV_get M j hjt
     have hcl:=fun k (hk:k< M.length*6)=>HM.out.2.2.1.cellAt k hk
     have d0:=HJ.out.2.1.cell hgx ((hcl _ kA).trans g0)
     have d1:=HJ.out.2.1.cell hgx ((hcl _ kA).trans g1)
     have d2:=HJ.out.2.1.cell hgx ((hcl _ kA).trans g2)
     have d3:=HJ.out.2.1.cell hgx ((hcl _ kA).trans g3)
     have d4:=HJ.out.2.1.cell hgx ((hcl _ kA).trans g4)
     have d5:=HJ.out.2.1.cell hgx ((hcl _ kA).trans g5)
     have hqm:=List.getElem_mem hjt
     have HQ:=Lh (And.intro (HMk.out _ hqm) (HM.out.2.1 _ hqm))
     have HS:Hid ((M.take (j+1)).map (fun q=>(((i:Int)+1,k4 q):IR))=(M.take j).map (fun q=>((i:Int)+1,k4 q))++ [((i:Int)+1,k4 M[j])]):=Lh (by rw[List.take_succ_eq_append_getElem hjt,List.map_append];rfl)
     obtain⟨q,hq⟩:∃q,M[j]=q:=⟨_,rfl⟩
     rw[hq]at d0 d1 d2 d3 d4 d5 HQ HS
     have hEq:Ext wq (wq.alloc (.cells #[.int .i64 q.kind,.string (bs q.name),.string (bs q.text),.int .i64 q.par,.int .i64 q.fin,.string (bs q.path)] 81)):=(Ext.refl _).alloc _
     have HP:=Lh (xput_any w.heap.size (wq.alloc (.cells #[.int .i64 q.kind,.string (bs q.name),.string (bs q.text),.int .i64 q.par,.int .i64 q.fin,.string (bs q.path)] 81)) bx _ q ((i:Int)+1) (HJ.out.1.ext hEq) HQ.out.1 HQ.out.2 (by have:=HLT.out;omega)
      (fun x hx=>by
       rcases List.mem_append.1 hx with hx | hx
       ·
        have:=psA_v n i x hx;have:=HA.out.few;omega
       ·
        obtain⟨r,_,rfl⟩:=List.mem_map.1 hx
        have:=HLT.out
        simp only
        omega)
      (by rw[List.length_append,List.length_map,List.length_take];have:=HPL.out;omega) (Nat.le_trans HJ.out.2.2.1.size hEq.size))
     have HEq:=Lh hEq
     clear hq hqm g0 g1 g2 g3 g4 g5 hcl hEq hgb hgl
     go_wp2_with fail
     refine HP.out.mono ?_
     rintro e w3 ⟨rfl,hI3,hK3⟩
     have hK3':IK w.heap.size bx wq w3:=((IK.refl _ _ wq).ext HJ.out.2.2.1.size HEq.out).trans hK3
     have HF:Hid (IXS w.heap.size w3 bx (psA n i++(M.take (j+1)).map fun q=>((i:Int)+1,k4 q))∧IK w.heap.size bx w2 w3∧Ext w w3∧IK w.heap.size bx wx w3):=Lh ⟨by rw[HS.out,←List.append_assoc];exact hI3,HJ.out.2.1.trans hK3',Below.trans HJ.out.2.2.1 hK3'.below,HJ.out.2.2.2.trans hK3'⟩
     clear HP hI3 hK3 hK3' HEq d0 d1 d2 d3 d4 d5
     go_wp2_with fail
     go_roundw
     case rel=>exact⟨j+1,by go_num,by omega,HF⟩
     case measure=>exact mZ
    ·
     have hjI:¬(j:Int)< (M.length:Int):=by omega
     have HF:Hid (IXS w.heap.size wq bx (psA n (i+1))∧IK w.heap.size bx wx wq∧Ext w wq):=Lh ⟨by
      have h1:=HJ.out.1
      rw[List.take_of_length_le kA]at h1
      have e1:psA n (i+1)=psA n i++M.map fun q=>((i:Int)+1,k4 q):=by
       rw[psA]
       unfold tabA
       rw[←HM.out.1,List.map_map];rfl
      rw[e1];exact h1,HJ.out.2.2.2,HJ.out.2.2.1⟩
     have hw1:IntKind.i64.wrap ((i:Int)+1+1)=(i:Int)+1+1:=IntWalk.i64_in _ kA
     clear HJ
     go_wp2_with fail
     go_roundw
     case rel=>exact⟨i+1,by go_num,by have:=HLT.out;omega,HF⟩
     case measure=>simp only[downV];have:=HLT.out;omega
  ·
   have hlI:¬((i:Int)+1)≤last:=by have:=HLS.out;omega
   have hiN:i=N:=by omega
   have HF:=HI.out
   rw[hiN]at HF
   have HF:=Lh HF
   clear hiN hb0 c1 c2 c3 c4 c5
   go_wp2_with fail
   go_ret
   exact⟨⟨bx,rfl,HF.out.1⟩,HF.out.2.2⟩
theorem lessB_lt:∀a b:Bytes,lessB a b=decide (a< b)
 | [],[]=>by simp[lessB]
 | [],_::_=>by simp[lessB]
 | _::_,[]=>by simp[lessB]
 | a::x,b::y=>by
  unfold lessB
  by_cases h:a=b
  ·
   subst h
   rw[if_pos rfl,lessB_lt x y,decide_eq_decide]
   simp
  ·
   rw[if_neg h,decide_eq_decide,List.cons_lt_cons_iff,UInt8.lt_iff_toNat_lt]
   simp[h]
def insP:List Bytes→Bytes→List Bytes
 | [],p=> [p]
 | q::r,p=>if lessB q p=true then q::insP r p else if q=p then q::r else p::q::r
def pathsL (PS:List IR):List Bytes:=PS.foldl (fun L x=>insP L (rowP x)) []
theorem mem_insP:∀(L:List Bytes) (p q:Bytes),q∈insP L p↔q=p∨q∈L
 | [],p,q=>by simp[insP]
 | a::r,p,q=>by
  unfold insP
  split
  ·
   rw[List.mem_cons,mem_insP r p q,List.mem_cons]
   constructor
   ·
    rintro(h | h | h)<;> simp[h]
   ·
    rintro(h | h | h)<;> simp[h]
  ·
   split
   ·
    rename_i h;subst h;simp
   ·
    simp
theorem pw_insP:∀(L:List Bytes) (p:Bytes),L.Pairwise (fun a b=>a< b)→(insP L p).Pairwise (fun a b=>a< b)
 | [],p,_=>by simp[insP]
 | a::r,p,h=>by
  obtain⟨h1,h2⟩:=List.pairwise_cons.1 h
  unfold insP
  split
  ·
   rename_i hl
   rw[lessB_lt,decide_eq_true_iff]at hl
   refine List.pairwise_cons.2 ⟨fun q hq=> ?_,pw_insP r p h2⟩
   rcases (mem_insP r p q).1 hq with e | hq
   ·
    rw[e];exact hl
   ·
    exact h1 q hq
  ·
   rename_i hl
   rw[lessB_lt,decide_eq_true_iff]at hl
   split
   ·
    exact h
   ·
    rename_i hne
    have hpa:p< a:=by
     rcases List.le_iff_lt_or_eq.1 (List.not_lt.1 hl)with h | h
     ·
      exact h
     ·
      exact absurd h.symm hne
    refine List.pairwise_cons.2 ⟨fun q hq=> ?_,h⟩
    rcases List.mem_cons.1 hq with e | hq
    ·
     rw[e];exact hpa
    ·
     exact List.lt_trans hpa (h1 q hq)
theorem pathsF (PS:List IR):∀L:List Bytes,L.Pairwise (fun a b=>a< b)→(PS.foldl (fun L x=>insP L (rowP x)) L).Pairwise (fun a b=>a< b)∧∀q,q∈PS.foldl (fun L x=>insP L (rowP x)) L↔q∈L∨∃x∈PS,rowP x=q:=by
 induction PS with
 | nil=>intro L h;exact⟨h,fun q=>by simp⟩
 | cons x r ih=>
  intro L h
  obtain⟨h1,h2⟩:=ih (insP L (rowP x)) (pw_insP L _ h)
  refine⟨h1,fun q=> ?_⟩
  rw[List.foldl_cons,h2,mem_insP]
  constructor
  ·
   rintro((e | h) | ⟨y,hy,e⟩)
   ·
    exact .inr ⟨x,by simp,e.symm⟩
   ·
    exact .inl h
   ·
    exact .inr ⟨y,by simp[hy],e⟩
  ·
   rintro(h | ⟨y,hy,e⟩)
   ·
    exact .inl (.inr h)
   ·
    rcases List.mem_cons.1 hy with e2 | hy
    ·
     rw[←e2];exact .inl (.inl e.symm)
    ·
     exact .inr ⟨y,hy,e⟩
theorem pathsL_lt (PS:List IR):(pathsL PS).Pairwise (fun a b=>a< b):=(pathsF PS [] List.Pairwise.nil).1
theorem mem_pathsL (PS:List IR) (q:Bytes):q∈pathsL PS↔∃x∈PS,rowP x=q:=by
 unfold pathsL
 rw[(pathsF PS [] List.Pairwise.nil).2 q]
 simp
theorem sorted_paths (PS:List IR) (Q:List Bytes) (hn:Q.Nodup) (hm:∀q,q∈Q↔∃x∈PS,rowP x=q) (S:List Bytes) (hS:S.Perm Q):S.mergeSort (fun x y=>decide (x≤y))=pathsL PS:=by
 have tr:∀a b c:List UInt8,leB a b=true→leB b c=true→leB a c=true:=fun a b c h1 h2=>by simp only[leB,decide_eq_true_eq]at*;exact List.le_trans h1 h2
 have to:∀a b:List UInt8,(leB a b || leB b a)=true:=fun a b=>by simp only[leB,Bool.or_eq_true,decide_eq_true_eq];exact List.le_total a b
 have hlt:=pathsL_lt PS
 have hnd:(pathsL PS).Nodup:=hlt.imp fun {a b} (h:a< b) (e:a=b)=>by subst e;exact List.lt_irrefl a h
 have hp:S.Perm (pathsL PS):=hS.trans ((List.perm_ext_iff_of_nodup hn hnd).2 fun q=>by rw[hm,mem_pathsL])
 refine List.Perm.eq_of_pairwise (le:=fun a b=>leB a b=true) (fun a b _ _ h1 h2=> ?_) (List.pairwise_mergeSort tr to S) (hlt.imp fun {a b} h=> ?_) ((List.mergeSort_perm S leB).trans hp)
 ·
  simp only[leB,decide_eq_true_eq]at h1 h2
  exact List.le_antisymm h1 h2
 ·
  simp only[leB,decide_eq_true_eq]
  exact List.le_of_lt h
def versR (PS:List IR) (p:Bytes) (f:Mk→Bool):List Int:=(PS.filter fun x=>decide (rowP x=p) && f (rowM x)).map (·.1)
theorem mem_versR {PS:List IR} {p:Bytes} {f:Mk→Bool} {v:Int}:v∈versR PS p f↔∃x∈PS,x.1=v∧rowP x=p∧f (rowM x)=true:=by
 unfold versR
 simp only[List.mem_map,List.mem_filter,Bool.and_eq_true,decide_eq_true_eq]
 constructor
 ·
  rintro⟨x,⟨h1,h2⟩,h3⟩;exact⟨x,h1,h3,h2⟩
 ·
  rintro⟨x,h1,h3,h2⟩;exact⟨x,⟨h1,h2⟩,h3⟩
theorem flOf_ext {L L':List Int} (h:∀u,u∈L↔u∈L'):flOf L=flOf L':=by
 funext j
 unfold flOf
 rw[decide_eq_decide,h]
def versS (PS:List IR) (p:Bytes) (f:Mk→Bool):List Span:=spansOf (flOf (versR PS p f))
structure Trc where
 p:Bytes
 s:List Span
deriving DecidableEq
def tracesL (PS:List IR) (f:Mk→Bool):List Trc:=(pathsL PS).filterMap fun p=>if versS PS p f= []then none else some ⟨p,versS PS p f⟩
def hasP:Bytes→Bytes→Bool
 | s,p=>p.isPrefixOf s || match s with
  | []=>false
  | _::r=>hasP r p
def askF (ask:Int) (kind:Int) (s:Bytes) (m:Mk):Bool:=if ask=0 then decide (m.1=kind) && decide (m.2.1=s)else if ask=1 then decide (m.1≠1) && (decide (m.1≠6) && hasP m.2.2 s)else if ask=3 then decide (m.2.2=s)else true
theorem MapR.perm {P:Program} {k:TypeId} {w:World} {b r:Nat} {E rest rest':List (Value×Value)} (h:MapR P k w b r E rest) (hp:rest.Perm rest'):MapR P k w b r E rest':=by
 obtain⟨es,left,cnt,h1,h2,h3,h4,h5,h6⟩:=h
 exact⟨es,left,cnt,h1,h2,h3,fun x hx=>h4 x (hp.mem_iff.2 hx),(hp.pairwise_iff fun {a b} (h:a.1≠b.1)=>h.symm).1 h5,fun x hx=>(h6 x hx).trans hp.mem_iff⟩
theorem MapR.iter {P:Program} {k:TypeId} {w:World} {b r:Nat} {E rest:List (Value×Value)} (h:MapR P k w b r E rest):∃x since seen c0,w.heap[r]? =some (.mapIter x since seen c0):=by
 obtain⟨es,left,cnt,⟨_,_,since,seen,c0,_,_,_,_,hi,_⟩,_⟩:=h
 exact⟨_,since,seen,c0,hi⟩
theorem Rep.iter {P:Program} {k:TypeId} {w w':World} {b r:Nat} {E rest:List (Value×Value)} (hm:MapR P k w b r E rest) (hg:w.grownBy w' (some r)) {p:Nat→Prop} {v:Value} {d:DV} (h:Rep w p v d):Rep w' p v d:=by
 obtain⟨x,since,seen,c0,hi⟩:=hm.iter
 refine h.cellsKept fun c o u hc _=> ?_
 rw[←hc]
 refine World.cell?_of_block (hg.block c (World.block_lt_of_cell? w _ hc) fun e=> ?_)
 have:=Option.some.inj e
 subst this
 simp[World.cell?,hi]at hc
theorem MapR.ext {P:Program} {k:TypeId} {w w':World} {b r:Nat} {E rest:List (Value×Value)} (h:MapR P k w b r E rest) (hE:Ext w w'):MapR P k w' b r E rest:=
 h.kept (row:=none) ⟨hE.os,hE.tape,hE.output,hE.size,fun i hi _=>Below.block hE i hi⟩ kI kI
theorem rl_ext {w w':World} {b r:Nat} (hE:Ext w w') (hb:b< w.heap.size) (hr:r< w.heap.size):w'.rangeLeft b r=w.rangeLeft b r:=by
 unfold World.rangeLeft
 rw[Below.block hE b hb,Below.block hE r hr]
theorem lu_step {PS:List IR} {p0:Bytes} {f:Mk→Bool} {L rest:List Mk} {LU LV:List Int} {m:Mk} (hN:∀u,u∈LU↔∃m∈L,m∉rest∧f m=true∧u∈versL PS p0 m) (hnd:rest.Nodup) (hm:m∈rest) (hL:∀m∈rest,m∈L)
  (hV:∀u,u∈LV↔u∈LU∨f m=true∧u∈versL PS p0 m):∀u,u∈LV↔∃k∈L,k∉rest.erase m∧f k=true∧u∈versL PS p0 k:=fun u=>by
 rw[hV,hN]
 constructor
 ·
  rintro(⟨k,h1,h2,h3⟩ | ⟨h1,h2⟩)
  ·
   exact⟨k,h1,fun h=>h2 (List.mem_of_mem_erase h),h3⟩
  ·
   exact⟨m,hL m hm,List.Nodup.not_mem_erase hnd,h1,h2⟩
 ·
  rintro⟨k,h1,h2,h3,h4⟩
  by_cases e:k=m
  ·
   subst e;exact .inr ⟨h3,h4⟩
  ·
   exact .inl ⟨k,h1,fun h=>h2 ((List.mem_erase_of_ne e).2 h),h3,h4⟩
def fmE (V:Mk→Value) (m:Mk):Value×Value:=(mkV m,V m)
def PredM (f:Mk→Bool) (g:Nat) (cb:Array Value) (w:World):Prop:=∀(W:World) (m:Mk),Ext w W→m.2.1.length≤1048576→m.2.2.length≤1048576→Calls Tryz.prog g (#[mkV m]++cb) W fun e w'=>e= .returned (.bool (f m))∧Ext W w'
theorem versL_R {PS:List IR} {p:Bytes} {f:Mk→Bool} {M:List Mk} (hM:∀m,m∈M↔versL PS p m≠ []) (u:Int):(∃m∈M,f m=true∧u∈versL PS p m)↔u∈versR PS p f:=by
 rw[mem_versR]
 constructor
 ·
  rintro⟨m,_,hf,hu⟩
  obtain⟨x,hx,e1,e2,e3⟩:=mem_versL.1 hu
  exact⟨x,hx,e1,e2,by rw[e3];exact hf⟩
 ·
  rintro⟨x,hx,e1,e2,e3⟩
  have hu:u∈versL PS p (rowM x):=mem_versL.2 ⟨x,hx,e1,e2,rfl⟩
  exact⟨rowM x,(hM _).2 (List.ne_nil_of_mem hu),e3,hu⟩
theorem xvers_any (base:Nat) (w:World) (bx:Nat) (PS:List IR) (p0:Bytes) (f:Mk→Bool) (g:Nat) (cb:Array Value) (h:IXS base w bx PS) (hPS:∀x∈PS,1≤x.1∧x.1≤12) (hFS:∀x∈PS,(rowM x).2.1.length≤1048576∧(rowM x).2.2.length≤1048576)
  (eg:∀args W,(callFunc g args).run Tryz.prog W= .ok (.enter g args) W) (hf:PredM f g cb w) (hp0:p0.length≤9223372036854775807):
  Calls Tryz.prog 33 #[.pointer (some ⟨bx,0,none⟩),.string (bs p0),.func (.func g) #[] cb] w fun e w'=>Ret (fun c=>w.heap.size≤c) (spansD (versS PS p0 f)) e w'∧Ext w w':=by
 obtain⟨bo,Q,B,M,V,hG,hQ⟩:=h
 have hbx:=blk_lt hG.box
 have x0:=blk_cell hG.box (k:=0) rfl
 have hkp:=keyStr p0 hp0
 obtain⟨R,hR⟩:∃R,versS PS p0 f=R:=⟨_,rfl⟩
 rw[hR]
 by_cases hp:p0∈Q
 ·
  have hlk:=hG.outer.look lawS (t:=73) (e:=120) kB (z:= .map none) (zeroMp w) hkp (v:= .map (some (B p0))) (.inl (List.mem_map.2 ⟨p0,hp,rfl⟩))
  replace hlk:(Instr.lookup 73 (.map (some bo)) (.string (bs p0)) false).run Tryz.prog w= .ok (.map (some (B p0))) w:=hlk
  obtain⟨w1,hrg,hMR,hg1,hs1⟩:=(hG.inner p0 hp).range lawM (t:=120) (e:=28) kB
  have hE1:Ext w w1:=⟨hg1.os,hg1.tape,hg1.output,hg1.size,fun k hk=>hg1.block k hk kI⟩
  obtain⟨bi,hbi⟩:∃b,B p0=b:=⟨_,rfl⟩
  rw[hbi]at hlk hrg hMR
  obtain⟨L,hL⟩:∃L,M p0=L:=⟨_,rfl⟩
  rw[hL]at hMR
  replace hMR:MapR Tryz.prog TM w1 bi w.heap.size (L.map (fmE (V p0))) (L.map (fmE (V p0))):=hMR
  have hms:=hG.ms p0 hp
  have hvs:=hG.vs p0 hp
  have hnd:=hG.mnd p0 hp
  rw[hL]at hms hvs hnd
  have HFIN:=Lh (show∀LU:List Int,(∀u,u∈LU↔∃m∈L,f m=true∧u∈versL PS p0 m)→spansOf (flOf LU)=R from fun LU hLU=>by
   rw[←hR]
   unfold versS
   rw[flOf_ext fun u=>(hLU u).trans (versL_R hms u)])
  have HX:=Lh (And.intro hms (And.intro hvs (And.intro hnd (And.intro hE1 hMR))))
  have HPF:=Lh (And.intro hPS (And.intro hFS hf))
  have hbil:bi< w.heap.size:=by rw[←hbi];exact(hG.inner p0 hp).lt
  clear hms hvs hnd hE1 hMR hg1 hs1 hL hbi hR hG hQ hp hPS hFS hf
  go_enter Tryz.func33,Tryz.ntmps33
  go_wp2_with fail
  clear hlk hrg x0
  go_loopw [7] (fun o wr=>∃(rest:List Mk) (LU:List Int),Hid (MapR Tryz.prog TM wr bi w.heap.size (L.map (fmE (V p0))) (rest.map (fmE (V p0)))∧rest.Nodup∧(∀m∈rest,m∈L)∧(∀u,u∈LU↔∃m∈L,m∉rest∧f m=true∧u∈versL PS p0 m)∧Rep wr (fun c=>w.heap.size≤c) o (spansD (spansOf (flOf LU)))∧Ext w wr)) (fun _ wr=>wr.rangeLeft bi w.heap.size)
  case atStart=>exact⟨L,[],Lh ⟨HX.out.2.2.2.2,HX.out.2.2.1,fun _ h=>h,fun u=>by
   constructor
   ·
    intro h;cases h
   ·
    rintro⟨m,h1,h2,_⟩;exact absurd h1 h2,.nil _,HX.out.2.2.2.1⟩⟩
  case round=>
   obtain⟨rest,LU,HI⟩:=hrel
   obtain⟨wo,hwo⟩:∃wo,wo=wr:=⟨_,rfl⟩
   subst hwo
   obtain⟨oa,on,oc,rfl,_⟩:=HI.out.2.2.2.2.1.slice
   rcases HI.out.1.next lawM 0 with⟨hnil,hrun⟩ | ⟨key,v,rest',w2,hperm,hrun,hMR2,hg2,hs2,hlt2,hen⟩
   ·
    have hr0:rest= []:=by simpa using hnil
    have HF:=Lh (And.intro (HFIN.out LU fun u=>by rw[HI.out.2.2.2.1 u,hr0];simp) HI.out.2.2.2.2)
    clear hnil hr0 HI
    go_wp2_with fail
    go_ret
    exact⟨⟨_,rfl,by rw[←HF.out.1];exact HF.out.2.1⟩,HF.out.2.2⟩
   ·
    obtain⟨m,hm,e⟩:∃m∈rest,fmE (V p0) m=(key,v):=List.mem_map.1 (hperm.mem_iff.2 List.mem_cons_self)
    have e1:mkV m=key:=congrArg Prod.fst e
    have e2:V p0 m=v:=congrArg Prod.snd e
    have hmL:=HI.out.2.2.1 m hm
    obtain⟨sa,sn,sc,hsv,_⟩:=(HX.out.2.1 m hmL).slice
    rw[e2]at hsv
    subst hsv
    have hsv:=HX.out.2.1 m hmL
    rw[e2]at hsv
    have hpr:rest'.Perm ((rest.erase m).map (fmE (V p0))):=by
     have h1:=(List.perm_cons_erase hm).map (fmE (V p0))
     rw[List.map_cons,e]at h1
     exact(hperm.symm.trans h1).cons_inv
    have hMR2:=hMR2.perm hpr
    have hE2:Ext w w2:=Below.grown HI.out.2.2.2.2.2 hg2 HI.out.2.2.2.2.2.size fun k hk=>by have:=Option.some.inj hk;omega
    have ho2:=HI.out.2.2.2.2.1.iter HI.out.1 hg2
    rw[←e1]at hrun hen
    replace hrun:(Instr.next (.pointer (some ⟨w.heap.size,0,none⟩)) false 0).run Tryz.prog wo= .ok (.tuple #[.bool true,.agg #[.int .i64 m.1,.string (bs m.2.1),.string (bs m.2.2)],.slice sa sn sc]) w2:=hrun
    replace hen:(Instr.entry (.pointer (some ⟨w.heap.size,0,none⟩))).run Tryz.prog w2= .ok (.tuple #[.agg #[.int .i64 m.1,.string (bs m.2.1),.string (bs m.2.2)],.slice sa sn sc]) w2:=hen
    have HN:Hid ((∀u,u∈LU↔∃m∈L,m∉rest∧f m=true∧u∈versL PS p0 m)∧rest.Nodup∧m∈rest∧(∀m∈rest,m∈L)):=Lh ⟨HI.out.2.2.2.1,HI.out.2.1,hm,HI.out.2.2.1⟩
    have HMR:=Lh (And.intro hMR2 (And.intro hE2 (And.intro ho2 (hsv.ext hE2))))
    have HL2:=Lh hlt2
    have hvne:versL PS p0 m≠ []:=(HX.out.1 m).1 hmL
    have hsz:m.2.1.length≤1048576∧m.2.2.length≤1048576:=by
     obtain⟨u,hu⟩:=List.exists_mem_of_ne_nil _ hvne
     obtain⟨x,hx,_,_,ex⟩:=mem_versL.1 hu
     rw[←ex];exact HPF.out.2.1 x hx
    have HPR:=Lh fun W (hE:Ext w W)=>HPF.out.2.2 W m hE hsz.1 hsz.2
    obtain⟨w3,hw3⟩:∃X,w2.alloc (.cells #[.int .i64 m.1,.string (bs m.2.1),.string (bs m.2.2)] 86)=X:=⟨_,rfl⟩
    have hE3:Ext w2 w3:=by rw[←hw3];exact(Ext.refl _).alloc _
    have hb3:w3.heap[w2.heap.size]? =some (.cells [.int .i64 m.1,.string (bs m.2.1),.string (bs m.2.2)].toArray 86 (0,0)):=by rw[←hw3];exact blk_new w2 _
    have m0:=blk_cell hb3 (k:=0) rfl;have m1:=blk_cell hb3 (k:=1) rfl;have m2:=blk_cell hb3 (k:=2) rfl
    have HE3:=Lh hE3
    have hvn:=Lh hvne
    clear hE3 hb3 hsz hvne hpr hMR2 hE2 ho2 hsv hlt2 hperm e e1 e2 hm hmL HI hg2 hs2
    go_wp2_with fail
    refine(show Calls Tryz.prog g (#[.agg #[.int .i64 m.1,.string (bs m.2.1),.string (bs m.2.2)]]++cb) w3 _ from HPR.out w3 (HMR.out.2.1.trans HE3.out)).mono ?_
    rintro e w4 ⟨rfl,hX4⟩
    have HX4:=Lh (HE3.out.trans hX4)
    have hlv:∀u∈versL PS p0 m,1≤u∧u≤12:=fun u hu=>by
     obtain⟨x,hx,rfl,_⟩:=mem_versL.1 hu
     exact HPF.out.1 x hx
    have hlu:∀u∈LU,1≤u∧u≤12:=fun u hu=>by
     obtain⟨k,_,_,_,h4⟩:=(HN.out.1 u).1 hu
     obtain⟨x,hx,rfl,_⟩:=mem_versL.1 h4
     exact HPF.out.1 x hx
    obtain⟨b,hb⟩:∃b,f m=b:=⟨_,rfl⟩
    rw[hb]
    have HB:=Lh hb
    have HU:=Lh (uni_any (flOf LU) (flOf (versL PS p0 m)) (fl12 hlu) (fl12 hlv) (fun _=>True) (.slice oa on oc) (.slice sa sn sc) w4 (by
     intro e
     exact spans_ne (fun u hu=>by have:=hlv u hu;omega) hvn.out (List.append_eq_nil_iff.1 e).2) ((HMR.out.2.2.1.ext HX4.out).ok fun _ _=>trivial) ((HMR.out.2.2.2.ext HX4.out).ok fun _ _=>trivial))
    have hr2:=HMR.out.1.lt
    have hb2:bi< w2.heap.size:=Nat.lt_of_lt_of_le hbil HMR.out.2.1.size
    clear hX4 hb hlv hlu m0 m1 m2 HPR hen hrun
    cases b with
    | true=>
     go_wp2_with fail
     refine HU.out.mono ?_
     rintro e w5 ⟨⟨v',rfl,hrv⟩,hX5⟩
     obtain⟨va,vn,vc,rfl,_⟩:=hrv.slice
     have hX25:=HX4.out.trans hX5
     have HF:Hid (MapR Tryz.prog TM w5 bi w.heap.size (L.map (fmE (V p0))) ((rest.erase m).map (fmE (V p0)))∧(rest.erase m).Nodup∧(∀k∈rest.erase m,k∈L)∧(∀u,u∈LU++versL PS p0 m↔∃k∈L,k∉rest.erase m∧f k=true∧u∈versL PS p0 k)∧Rep w5 (fun c=>w.heap.size≤c) (.slice va vn vc) (spansD (spansOf (flOf (LU++versL PS p0 m))))∧Ext w w5):=
      Lh ⟨HMR.out.1.ext hX25,HN.out.2.1.erase _,fun k hk=>HN.out.2.2.2 k (List.mem_of_mem_erase hk),lu_step HN.out.1 HN.out.2.1 HN.out.2.2.1 HN.out.2.2.2 fun u=>by rw[List.mem_append,HB.out];simp,by rw[flOf_append];exact hrv.ok fun c hc=>Nat.le_trans (HMR.out.2.1.trans HX4.out).size hc,HMR.out.2.1.trans hX25⟩
     have HRL:=Lh (rl_ext (b:=bi) (r:=w.heap.size) hX25 hb2 hr2)
     clear hrv hX5 hX25 HU hr2 hb2
     go_wp2_with fail
     go_roundw
     case rel=>exact⟨_,_,HF⟩
     case measure=>rw[HRL.out];exact HL2.out
    | false=>
     have HF:Hid (MapR Tryz.prog TM w4 bi w.heap.size (L.map (fmE (V p0))) ((rest.erase m).map (fmE (V p0)))∧(rest.erase m).Nodup∧(∀k∈rest.erase m,k∈L)∧(∀u,u∈LU↔∃k∈L,k∉rest.erase m∧f k=true∧u∈versL PS p0 k)∧Rep w4 (fun c=>w.heap.size≤c) (.slice oa on oc) (spansD (spansOf (flOf LU)))∧Ext w w4):=
      Lh ⟨HMR.out.1.ext HX4.out,HN.out.2.1.erase _,fun k hk=>HN.out.2.2.2 k (List.mem_of_mem_erase hk),lu_step HN.out.1 HN.out.2.1 HN.out.2.2.1 HN.out.2.2.2 fun u=>by rw[HB.out];simp,HMR.out.2.2.1.ext HX4.out,HMR.out.2.1.trans HX4.out⟩
     have HRL:=Lh (rl_ext (b:=bi) (r:=w.heap.size) HX4.out hb2 hr2)
     clear HU hr2 hb2
     go_wp2_with fail
     go_roundw
     case rel=>exact⟨_,_,HF⟩
     case measure=>rw[HRL.out];exact HL2.out
 ·
  have hlk:=hG.outer.look lawS (t:=73) (e:=120) kB (z:= .map none) (zeroMp w) hkp (v:= .map none) (.inr ⟨fun x hx e=>by
   obtain⟨p,hp',rfl⟩:=List.mem_map.1 hx
   exact hp (pathV_inj e ▸ hp'),rfl⟩)
  replace hlk:(Instr.lookup 73 (.map (some bo)) (.string (bs p0)) false).run Tryz.prog w= .ok (.map none) w:=hlk
  have hrg:=run_range_nilMap (P:=Tryz.prog) w 120 TM 28 kB
  have hnx:=run_next_nilMap (P:=Tryz.prog) w 0 0 0 #[]
  obtain⟨w1,hw1⟩:∃X,w.alloc (.mapIter none 0 #[] 0)=X:=⟨_,rfl⟩
  have hE1:Ext w w1:=by rw[←hw1];exact(Ext.refl _).alloc _
  rw[hw1]at hrg hnx
  have hR0:R= []:=by
   rw[←hR]
   unfold versS
   have:versR PS p0 f= []:=List.eq_nil_iff_forall_not_mem.2 fun u hu=>by
    obtain⟨x,hx,_,e,_⟩:=mem_versR.1 hu
    exact hp (e ▸ hG.all x hx)
   rw[this];rfl
  subst hR0
  have HE:=Lh hE1
  clear hE1 hw1 hR hG hQ hp hPS hFS hf
  go_enter Tryz.func33,Tryz.ntmps33
  go_wp2_with fail
  clear hlk hrg x0
  go_loopw [7] (fun o wr=>o= .slice none 0 0∧wr=w1) (fun _ _=>0)
  case atStart=>exact⟨rfl,rfl⟩
  case round=>
   obtain⟨rfl,rfl⟩:=hrel
   go_wp2_with fail
   go_ret
   exact⟨⟨_,rfl,.nil _⟩,HE.out⟩
section
variable {P:Program} {ops:Array Oper} {rest:List Oper} {o:Oper} {a:Act} {w:World} {Q:Exit→Act→World→Prop}
theorem wpList_app1 (hgd:o.guard=none) (s x:Operand) (T:TypeId) (ho:o.op= .call {callee:= .builtin .append,args:= #[s,x],argTypes:= #[T,T]})
    (w0:World) (e:TypeId) {z:Value} {zs bt:Nat} (hi:(P.info? e).map (fun i=>(i.zero,i.size,i.bytes))=some (some z,zs,bt)) (ht:P.underlying T=some (.slice e)) (hzs:z.cells.size=zs) (hpos:0< zs)
    {p:Nat→Prop} {v:Value} {n:Nat} {es:List DV} (hO:Own w p w0.heap.size e zs v n es) (hs:a.eval s=v) {g:Nat} {ns:List Value} {ds:List DV} (hx:a.eval x= .slice (some ⟨g,0,none⟩) 1 1)
    (hb:w.heap[g]? =some (.cells ns.toArray e (0,0))) (hl:ns.length=zs) (h1:∀u∈ns,u.oneCell'=true) {q:Nat→Prop} (hR:Reps w q ns ds) (hq:∀b,q b→b< w.heap.size→p b∧some b≠v.ownBlock)
    (hn:n< 100000000) (hbt:bt≤1000) (hE:Ext w0 w)
    (h:∀v' w',Own w' p w0.heap.size e zs v' (n+1) (es++ds)→Ext w0 w'→w.grownBy w' v.ownBlock→wpList P ops Q rest (a.put o.dst v') w'):wpList P ops Q (o::rest) a w:=by
  obtain⟨i,hi0,hz0,hz1,hz2⟩:=info_parts hi
  obtain⟨us,hrow,hu⟩:=hO
  refine wpList_append_own_at w hgd s x T ho w0.heap.size e i z zs bt ht hi0 hz0 hz1 hz2 hzs hpos v n us hs hrow ⟨g,0,none⟩ 1 1 ns hx (by rw[hl,Nat.one_mul]) (fun j u hj=> ?_) h1 kC ?_ hE.size ?_
  · rw[add_offs',Nat.zero_add];exact blk_cells hb j hj
  · have:(n+1)*bt≤100000000*1000:=Nat.mul_le_mul kA hbt
    omega
  · intro v' w' hown hg _ hat
    refine h v' w' ?_ (Below.grown hE hg hE.size fun k hk=>(hrow.lt k hk).1) hg
    exact Own.push hu ((hR.lt).ok fun b hb=>⟨(hq b hb.1 hb.2).1,(hq b hb.1 hb.2).2,hb.2⟩) hown hg hat
end
def trcC (t:Trc):List DV:= [.v (.string (bs t.p)),spansD t.s]
def trcsD (l:List Trc):DV:= .s 2 (l.flatMap trcC)
theorem z_trc (t:Trc):(trcC t).length=2:=rfl
theorem trc_at {w:World} {p:Nat→Prop} {a:Option Addr} {len cap:Nat} {l:List Trc} (h:Rep w p (.slice a len cap) (trcsD l)) (i:Nat) (hi:i< l.length):
    ∃b off k,a=some ⟨b,off,none⟩∧b< w.heap.size∧p b∧w.cell? ⟨b,off+i*2,none⟩=some (.string (bs l[i].p))∧w.cell? ⟨b,off+i*2+1,none⟩=some k∧Rep w p k (spansD l[i].s):=by
  obtain⟨b,off,ha,hb,hp,hc⟩:=elem_at z_trc h kA i hi
  obtain⟨u,hu,hr⟩:=hc 0 _ rfl
  obtain⟨u1,hu1,hr1⟩:=hc 1 _ rfl
  exact⟨b,off,u1,ha,hb,hp,by rw[←hr.is];exact hu,hu1,hr1⟩
theorem infoTrc:(Tryz.prog.info? 59).map (fun i=>(i.zero,i.size,i.bytes))=some (some (.agg #[.string ⟨#[]⟩,.slice none 0 0]),2,40):=by kernel_rfl
theorem MapE.keysP {w:World} {bo:Nat} {Q:List Bytes} {f:Bytes→Value} (h:MapE Tryz.prog TS w bo (Q.map fun p=>(pathV p,f p))):∃es,w.ownsMap Tryz.prog TS HV bo Q.length (.map es)∧(strKeys (.map es)).Perm Q∧es.length=Q.length:=by
  obtain⟨es,h1,h2,h3⟩:=h
  rw[List.length_map]at h1
  refine⟨es,h1,?_,by rw[h2.length_eq,List.length_map,List.length_map]⟩
  have e1:=h2.map fun p=>strOf p.1
  have e2:((Q.map fun p=>(pathV p,f p)).map (imgE Tryz.prog TS)).map (fun p=>strOf p.1)=Q:=by
    rw[List.map_map,List.map_map]
    conv=>rhs;rw[←List.map_id Q]
    refine List.map_congr_left fun p hp=> ?_
    obtain⟨l,hl⟩:=h3.1 (pathV p,f p) (List.mem_map.2 ⟨p,hp,rfl⟩)
    show strOf (lkE Tryz.prog TS (pathV p))=p
    rw[lkE_of hl]
    have hu:Tryz.prog.underlying TS=some .string:=by kernel_rfl
    obtain⟨x,hx,hx2,_⟩:=Maps.keyOf_str hu hl
    have:bs p=bs x:=by unfold pathV at hx;injection hx with hx
    rw[hx2]
    exact(bs_inj' this).symm
  rw[e2]at e1
  exact e1
theorem sorts_any (m:Nat):AnyZ.SortsIn Tryz.prog Tryz.sorted55_ren Fence.wide m:=
  ⟨fun blk off cap ss W hH hblk hsz=>callsIn_wide.2 (AnyM.slices_Sort_string Tryz.sort89 blk off cap ss W hH hblk hsz),
   fun p cap W=>callsIn_wide.2 (AnyM.slices_Sort_string_none Tryz.sort89 p cap W)⟩
theorem mkeys_any (mb:Option Nat) (W:World):Calls Tryz.prog 56 #[.map mb] W fun e w'=>e= .returned (.func (.func 90) #[] #[.pointer (some ⟨W.heap.size,0,none⟩)])∧w'=W.alloc (.cells #[.map mb] 73):=
  (callsIn_wide (n:=5)).1 (AnyZ.keys_in Tryz.keys56 Fence.wide 5 trivial rfl mb W)
theorem msorted_any (bo:Nat) (Q:List Bytes) (f:Bytes→Value) (w:World) (h:MapE Tryz.prog TS w bo (Q.map fun p=>(pathV p,f p))) (hq:Q.length≤100000000):
    Calls Tryz.prog 55 #[.func (.func 90) #[] #[.pointer (some ⟨w.heap.size,0,none⟩)]] (w.alloc (.cells #[.map (some bo)] 73)) fun e w'=>∃(v:Value) (ss:List Bytes),e= .returned v∧ss.Perm Q∧
      w'.ownsRow (w.heap.size+1) 9 1 v ss.length ((ss.mergeSort (fun x y=>decide (x≤y))).map fun x=> .string (bs x))∧Ext (w.alloc (.cells #[.map (some bo)] 73)) w':=by
  obtain⟨es,hown,hpm,hlen⟩:=h.keysP
  have hbl:=hown.lt
  have hsz:Maps.size (DataW.map es)=Q.length:=by rw[Maps.size_eq,hlen]
  have hseq:SeqGives Fence.wide 2 Tryz.prog 90 #[.pointer (some ⟨w.heap.size,0,none⟩)] encStr (fun ss=>ss.Perm (strKeys (.map es))) (Maps.size (DataW.map es)) (w.alloc (.cells #[.map (some bo)] 73)):=
    AnyZ.keys_gives (ρ:=Tryz.keys56_ren) {Tryz.keys56 with} Fence.wide _ trivial rfl kA w.heap.size bo Q.length (.map es) _ kI kI (by
      obtain⟨es',clock,hb,Ft,hs,hD⟩:=hown
      exact⟨es',clock,(Below.heap_alloc _ _ bo hbl).trans hb,Ft,hs,hD⟩)
  have hc:=(callsIn_wide (n:=5)).1 (AnyZ.sorted_in Tryz.sorted55 Fence.wide 5 trivial trivial trivial trivial rfl kA (sorts_any _) (enters_of Tryz.func89 kB rfl) 90 #[.pointer (some ⟨w.heap.size,0,none⟩)] trivial (enters_of Tryz.func90 kB rfl) _ _ (by rw[hsz];unfold maxLen;omega) (by rw[hsz];omega) _ hseq)
  refine Calls.mono hc fun e w' ⟨v,ss,he,hp,hrow,_,hB⟩=>⟨v,ss,he,hp.trans hpm,?_,hB⟩
  have e1:(w.alloc (.cells #[.map (some bo)] 73)).heap.size=w.heap.size+1:=by simp
  rw[e1]at hrow
  exact hrow
theorem hasP_contains:∀s p:Bytes,Lib.contains s p=hasP s p
 | [],p=>by
  unfold Lib.contains Lib.index hasP
  cases p<;> simp
 | b::l,p=>by
  have ih:=hasP_contains l p
  unfold Lib.contains at ih⊢
  unfold Lib.index hasP
  by_cases h:p.isPrefixOf (b::l)=true
  ·
   rw[if_pos h,h];rfl
  ·
   rw[if_neg h,Bool.eq_false_iff.2 h,Bool.false_or]
   show _=hasP l p
   rw[←ih]
   by_cases h2:Lib.index l p= -1
   ·
    rw[if_pos (beq_iff_eq.2 h2),h2]
   ·
    rw[if_neg (by rw[beq_iff_eq];exact h2)]
    have: -1≤Lib.index l p:=by
     rcases Lib.index_spec l p with⟨h3,_⟩ | ⟨i,h3,_⟩<;> omega
    rw[decide_eq_decide]
    omega
theorem named_pred (kind:Int) (nm:Bytes) (w:World) (b1:Nat) (b2:Nat) (hb1:w.cell? ⟨b1,0,none⟩=some (.int .i64 kind)) (lb1:b1< w.heap.size) (hb2:w.cell? ⟨b2,0,none⟩=some (.string (bs nm))) (lb2:b2< w.heap.size):PredM (askF 0 kind nm) 30 #[.pointer (some ⟨b1,0,none⟩),.pointer (some ⟨b2,0,none⟩)] w:=by
 intro W m hE hm1 hm2
 show Calls Tryz.prog 30 #[.agg #[.int .i64 m.1,.string (bs m.2.1),.string (bs m.2.2)],.pointer (some ⟨b1,0,none⟩),.pointer (some ⟨b2,0,none⟩)] W _
 obtain⟨wx,hwx⟩:∃X,W.alloc (.cells #[.int .i64 m.1,.string (bs m.2.1),.string (bs m.2.2)] 86)=X:=⟨_,rfl⟩
 have hX:Ext W wx:=by rw[←hwx];exact(Ext.refl _).alloc _
 have hbx:wx.heap[W.heap.size]? =some (.cells [.int .i64 m.1,.string (bs m.2.1),.string (bs m.2.2)].toArray 86 (0,0)):=by rw[←hwx];exact blk_new W _
 have y0:=blk_cell hbx (k:=0) rfl;have y1:=blk_cell hbx (k:=1) rfl;have y2:=blk_cell hbx (k:=2) rfl
 clear hbx
 have cb1:=(hE.trans hX).keep lb1 hb1
 have cb2:=(hE.trans hX).keep lb2 hb2
 clear hb1
 clear hb2
 by_cases hk:m.1=kind
 ·
  have hkq:(m.1==kind)=true:=beq_iff_eq.2 hk
  have hkd:decide (m.1=kind)=true:=decide_eq_true hk
  clear hk
  by_cases hn:m.2.1=nm
  ·
   have hnq:((bs m.2.1).toList==(bs nm).toList)=true:=by rw[bs_eqv];exact beq_iff_eq.2 hn
   have hS:Hid (askF 0 kind nm m=true):=Lh (by unfold askF;rw[if_pos rfl,hkd,decide_eq_true hn];rfl)
   clear hn hkd
   go_enter Tryz.func30,Tryz.ntmps30
   go_wp2_with fail
   go_ret
   exact⟨ret_bool (by rw[hS.out]),hX⟩
  ·
   have hnq:((bs m.2.1).toList==(bs nm).toList)=false:=by rw[bs_eqv];exact beq_eq_false_iff_ne.2 hn
   have hS:Hid (askF 0 kind nm m=false):=Lh (by unfold askF;rw[if_pos rfl,decide_eq_false hn,Bool.and_false])
   clear hn hkd
   go_enter Tryz.func30,Tryz.ntmps30
   go_wp2_with fail
   go_ret
   exact⟨ret_bool (by rw[hS.out]),hX⟩
 ·
  have hkq:(m.1==kind)=false:=beq_eq_false_iff_ne.2 hk
  have hS:Hid (askF 0 kind nm m=false):=Lh (by unfold askF;rw[if_pos rfl,decide_eq_false hk];rfl)
  clear hk
  go_enter Tryz.func30,Tryz.ntmps30
  go_wp2_with fail
  go_ret
  exact⟨ret_bool (by rw[hS.out]),hX⟩
theorem path_pred (kind:Int) (tx:Bytes) (w:World):PredM (askF 2 kind tx) 34 #[] w:=by
 intro W m hE hm1 hm2
 show Calls Tryz.prog 34 #[.agg #[.int .i64 m.1,.string (bs m.2.1),.string (bs m.2.2)]] W _
 obtain⟨wx,hwx⟩:∃X,W.alloc (.cells #[.int .i64 m.1,.string (bs m.2.1),.string (bs m.2.2)] 86)=X:=⟨_,rfl⟩
 have hX:Ext W wx:=by rw[←hwx];exact(Ext.refl _).alloc _
 have hbx:wx.heap[W.heap.size]? =some (.cells [.int .i64 m.1,.string (bs m.2.1),.string (bs m.2.2)].toArray 86 (0,0)):=by rw[←hwx];exact blk_new W _
 have y0:=blk_cell hbx (k:=0) rfl;have y1:=blk_cell hbx (k:=1) rfl;have y2:=blk_cell hbx (k:=2) rfl
 clear hbx
 have hS:Hid (askF 2 kind tx m=true):=Lh (by unfold askF;rw[if_neg kD,if_neg kD,if_neg kD])
 go_enter Tryz.func34,Tryz.ntmps34
 go_wp2_with fail
 go_ret
 exact⟨ret_bool (by rw[hS.out]),hX⟩
theorem hold_pred (kind:Int) (tx:Bytes) (w:World) (hmax:∃mx,w.cell? ⟨0,0,none⟩=some (.int .i64 mx)) (l00:0< w.heap.size) (b1:Nat) (hb1:w.cell? ⟨b1,0,none⟩=some (.string (bs tx))) (lb1:b1< w.heap.size):PredM (askF 1 kind tx) 31 #[.pointer (some ⟨b1,0,none⟩)] w:=by
 intro W m hE hm1 hm2
 show Calls Tryz.prog 31 #[.agg #[.int .i64 m.1,.string (bs m.2.1),.string (bs m.2.2)],.pointer (some ⟨b1,0,none⟩)] W _
 obtain⟨wx,hwx⟩:∃X,W.alloc (.cells #[.int .i64 m.1,.string (bs m.2.1),.string (bs m.2.2)] 86)=X:=⟨_,rfl⟩
 have hX:Ext W wx:=by rw[←hwx];exact(Ext.refl _).alloc _
 have hbx:wx.heap[W.heap.size]? =some (.cells [.int .i64 m.1,.string (bs m.2.1),.string (bs m.2.2)].toArray 86 (0,0)):=by rw[←hwx];exact blk_new W _
 have y0:=blk_cell hbx (k:=0) rfl;have y1:=blk_cell hbx (k:=1) rfl;have y2:=blk_cell hbx (k:=2) rfl
 clear hbx
 have cb1:=(hE.trans hX).keep lb1 hb1
 clear hb1
 by_cases h1:m.1=1
 ·
  have h1q:(m.1 !=1)=false:=by rw[h1];rfl
  have hS:Hid (askF 1 kind tx m=false):=Lh (by unfold askF;rw[if_neg kD,if_pos rfl,decide_eq_false (by simpa using h1)];rfl)
  clear h1
  go_enter Tryz.func31,Tryz.ntmps31
  go_wp2_with fail
  go_ret
  exact⟨ret_bool (by rw[hS.out]),hX⟩
 ·
  have h1q:(m.1 !=1)=true:=by rw[bne_iff_ne];exact h1
  by_cases h6:m.1=6
  ·
   have h6q:(m.1 !=6)=false:=by rw[h6];rfl
   have hS:Hid (askF 1 kind tx m=false):=Lh (by unfold askF;rw[if_neg kD,if_pos rfl,decide_eq_false (p:=m.1≠6) (by simpa using h6)];simp)
   clear h1 h6
   go_enter Tryz.func31,Tryz.ntmps31
   go_wp2_with fail
   go_ret
   exact⟨ret_bool (by rw[hS.out]),hX⟩
  ·
   have h6q:(m.1 !=6)=true:=by rw[bne_iff_ne];exact h6
   have hS:Hid (askF 1 kind tx m=hasP m.2.2 tx):=Lh (by unfold askF;rw[if_neg kD,if_pos rfl,decide_eq_true (p:=m.1≠1) h1,decide_eq_true (p:=m.1≠6) h6];rfl)
   obtain⟨mx,hmx⟩:=hmax
   have HC:=Lh (Tryz.strings_Contains (bs m.2.2) (bs tx) mx wx kU ((hE.trans hX).keep l00 hmx))
   clear h1 h6 hmx
   go_enter Tryz.func31,Tryz.ntmps31
   go_wp2_with fail
   refine HC.out.mono ?_
   rintro e w2 ⟨rfl,rfl⟩
   go_wp2_with fail
   go_ret
   exact⟨ret_bool (by rw[hS.out];exact hasP_contains _ _),hX⟩
theorem PredM.ext {f:Mk→Bool} {g:Nat} {cb:Array Value} {w w':World} (h:PredM f g cb w) (hE:Ext w w'):PredM f g cb w':=fun W m hX=>h W m (hE.trans hX)
def trF (PS:List IR) (f:Mk→Bool) (p:Bytes):Option Trc:=if versS PS p f= []then none else some ⟨p,versS PS p f⟩
theorem trF_step (PS:List IR) (f:Mk→Bool) (P:List Bytes) (i:Nat) (h:i< P.length):(P.take (i+1)).filterMap (trF PS f)=(P.take i).filterMap (trF PS f)++(if versS PS P[i] f= []then []else [⟨P[i],versS PS P[i] f⟩]):=by
 rw[List.take_succ_eq_append_getElem h,List.filterMap_append]
 congr 1
 unfold trF
 by_cases e:versS PS P[i] f= []
 ·
  simp[e]
 ·
  simp[e]
theorem own_str_at {w:World} {base:Nat} {v:Value} {P:List Bytes} (h:w.ownsRow base 9 1 v P.length (P.map fun x=> .string (bs x))) (i:Nat) (hi:i< P.length):∃g c,v= .slice (some ⟨g,0,none⟩) P.length c∧g< w.heap.size∧w.cell? ⟨g,i,none⟩=some (.string (bs P[i])):=by
 obtain⟨g,c,rfl,_,hlt⟩:=own_pos h kA
 exact⟨g,c,rfl,hlt,(h.cellAt i kA).trans (by rw[List.getElem?_map,List.getElem?_eq_getElem hi];rfl)⟩
theorem xtr_any (base:Nat) (w:World) (bx:Nat) (PS:List IR) (f:Mk→Bool) (g:Nat) (cb:Array Value) (h:IXS base w bx PS) (hPS:∀x∈PS,1≤x.1∧x.1≤12) (hFS:∀x∈PS,(rowM x).2.1.length≤1048576∧(rowM x).2.2.length≤1048576)
  (hPP:∀x∈PS,(rowP x).length≤1000000000000) (hL:PS.length≤1000000) (eg:∀args W,(callFunc g args).run Tryz.prog W= .ok (.enter g args) W) (hf:PredM f g cb w):
  Calls Tryz.prog 29 #[.pointer (some ⟨bx,0,none⟩),.func (.func g) #[] cb] w fun e w'=>Ret (fun c=>w.heap.size≤c) (trcsD (tracesL PS f)) e w'∧Ext w w':=by
 have HI:=Lh h
 obtain⟨bo,Q,B,M,V,hG,hQ⟩:=h
 have hbx:=blk_lt hG.box
 have x0:=blk_cell hG.box (k:=0) rfl
 have hql:=qlen hG hQ
 have HK:=Lh (mkeys_any (some bo) w)
 have HS:=Lh (msorted_any bo Q (fun p=> .map (some (B p))) w hG.outer kA)
 have HSP:=Lh (sorted_paths PS Q hG.qnd fun q=>⟨fun h=>hQ q h,fun⟨x,hx,e⟩=>e ▸ hG.all x hx⟩)
 have HPF:=Lh (And.intro hPS (And.intro hFS (And.intro hPP hf)))
 obtain⟨R,hR⟩:∃R,tracesL PS f=R:=⟨_,rfl⟩
 rw[hR]
 have HR:=Lh hR
 clear hG hQ hPS hFS hPP hf hR
 go_enter Tryz.func29,Tryz.ntmps29
 go_wp2_with fail
 refine HK.out.mono ?_
 rintro e w1 ⟨rfl,hw1⟩
 have hE1:Ext w w1:=by rw[hw1];exact(Ext.refl _).alloc _
 have HS1:=HS
 rw[←hw1]at HS1
 have HE1:=Lh hE1
 clear HK HS hE1 hw1
 go_wp2_with fail
 refine HS1.out.mono ?_
 rintro e w2 ⟨v,ss,rfl,hpm,hrow,hX2⟩
 rw[HSP.out ss hpm]at hrow
 obtain⟨P,hP⟩:∃P,pathsL PS=P:=⟨_,rfl⟩
 have hPlen:ss.length=P.length:=by
  have h1:=HSP.out ss hpm
  rw[hP]at h1
  rw[←h1,List.length_mergeSort]
 rw[hP,hPlen]at hrow
 obtain⟨da,dc,rfl⟩:=own_slice hrow
 have hPm:∀p∈P,p.length≤1000000000000:=fun p hp=>by
  rw[←hP]at hp
  obtain⟨x,hx,rfl⟩:=(mem_pathsL PS p).1 hp
  exact HPF.out.2.2.1 x hx
 have hPn:P.length≤1000000:=by
  have:=hpm.length_eq
  omega
 have HT:Hid (P.filterMap (trF PS f)=R):=Lh (by rw[←HR.out,←hP];rfl)
 have HX2:=Lh (And.intro (HE1.out.trans hX2) (And.intro hrow hPm))
 clear hpm hrow hX2 hP hPlen hPm HS1 x0
 go_wp2_with fail
 go_loopw [5,16] (fun o t wr=>∃i:Nat,t= .int .i64 i∧i≤P.length∧Hid (Own wr (fun c=>w.heap.size≤c) w2.heap.size 59 2 o ((P.take i).filterMap (trF PS f)).length (((P.take i).filterMap (trF PS f)).flatMap trcC)∧Ext w2 wr)) (fun _ t _=>downV P.length t)
 case atStart=>exact⟨0,rfl,Nat.zero_le _,Lh ⟨Own.nil _ _ _ _ _,Ext.refl _⟩⟩
 case round=>
  obtain⟨i,rfl,hi,HO⟩:=hrel
  have hi0:=nZ0 i
  obtain⟨wo,hwo⟩:∃wo,wo=wr:=⟨_,rfl⟩
  subst hwo
  obtain⟨oa,oc,rfl,_,_⟩:=HO.out.1.form
  by_cases hlt:i< P.length
  ·
   have hlI:(i:Int)< (P.length:Int):=by omega
   obtain⟨gs,gc,hsl,hgl,hcs⟩:=own_str_at HX2.out.2.1 i hlt
   cases hsl
   have c1:=HO.out.2.keep hgl hcs
   have HST:=Lh (trF_step PS f P i hlt)
   have hpl:=HX2.out.2.2 P[i] (List.getElem_mem hlt)
   obtain⟨p,hp⟩:∃p,P[i]=p:=⟨_,rfl⟩
   rw[hp]at c1 HST hpl
   have hEo:=HX2.out.1.trans HO.out.2
   have HV:=Lh (xvers_any base wo bx PS p f g cb (HI.out.ext hEo) HPF.out.1 HPF.out.2.1 eg (HPF.out.2.2.2.ext hEo) kA)
   have HEO:=Lh hEo
   clear hp hcs hgl hEo
   go_wp2_with fail
   refine HV.out.mono ?_
   rintro e w3 ⟨⟨v',rfl,hrv⟩,hX3⟩
   obtain⟨sa,sc,rfl,_,_⟩:=hrv.count z_span kA
   obtain⟨VS,hVS⟩:∃S,versS PS p f=S:=⟨_,rfl⟩
   rw[hVS]at hrv HST⊢
   have HX3:=Lh (And.intro hrv hX3)
   clear hrv hX3 HV hVS c1
   by_cases hne:VS= []
   ·
    have HF:Hid (Own w3 (fun c=>w.heap.size≤c) w2.heap.size 59 2 (.slice oa ((P.take i).filterMap (trF PS f)).length oc) ((P.take (i+1)).filterMap (trF PS f)).length (((P.take (i+1)).filterMap (trF PS f)).flatMap trcC)∧Ext w2 w3):=Lh (by
     rw[HST.out,if_pos hne,List.append_nil]
     exact⟨HO.out.1.ext HX3.out.2,HO.out.2.trans HX3.out.2⟩)
    subst hne
    simp only[List.length_nil]at*
    obtain⟨K,hK⟩:∃K,((P.take i).filterMap (trF PS f)).length=K:=⟨_,rfl⟩
    rw[hK]at HF⊢
    clear hK HST HO
    go_wp2_with fail
    go_roundw
    case rel=>exact⟨i+1,by go_num,by omega,HF⟩
    case measure=>exact mZ
   ·
    have h0:(0:Int)< (VS.length:Int):=by have:=List.length_pos_iff.2 hne;omega
    have hT:(P.take (i+1)).filterMap (trF PS f)=(P.take i).filterMap (trF PS f)++ [⟨p,VS⟩]:=by rw[HST.out,if_neg hne]
    obtain⟨TL,hTL⟩:∃T,(P.take i).filterMap (trF PS f)=T:=⟨_,rfl⟩
    have hTn:TL.length< 100000000:=by
     have:=List.length_filterMap_le (trF PS f) (P.take i)
     rw[hTL,List.length_take]at this
     omega
    have HOt:=HO.out
    rw[hTL]at hT HOt⊢
    have HT2:=Lh hT
    have HO2:=Lh HOt
    clear hT HOt HO HST hTL hne
    have hbl:Hid (∀b,some b=(Value.slice oa TL.length oc).ownBlock→b< wo.heap.size):=Lh (by
     obtain⟨us,hr,_⟩:=HO2.out.1.rows
     exact fun b hb=>(hr.lt b hb.symm).2)
    go_wp2_with (at_builtin;refine wpList_app1 rfl (.tmp 27) (.tmp 31) 45 rfl w2 59 infoTrc Tryz.underlying45 rfl kD (p:=fun c=>w.heap.size≤c) (v:= .slice oa TL.length oc) (HO2.out.1.ext (HX3.out.2.alloc _)) rfl (g:=w3.heap.size) (ns:= [.string (bs p),.slice sa VS.length sc]) (ds:=trcC ⟨p,VS⟩) rfl (blk_new w3 _) rfl kG (q:=fun c=>wo.heap.size≤c) (Reps.cons (Rep.string _ _ _ kU) (Reps.cons ((HX3.out.1.ext ((Ext.refl w3).alloc _))) (Reps.nil _ _))) (fun b hb _=>⟨Nat.le_trans HEO.out.size hb,fun e=>by have:=hbl.out b e;omega⟩) hTn kD ((HO2.out.2.trans HX3.out.2).alloc _) ?_;intro v4 w4 hO4 hE4 _;have HF4:=Lh (And.intro hO4 hE4);clear hO4 hE4)
    have HF:Hid (Own w4 (fun c=>w.heap.size≤c) w2.heap.size 59 2 v4 ((P.take (i+1)).filterMap (trF PS f)).length (((P.take (i+1)).filterMap (trF PS f)).flatMap trcC)∧Ext w2 w4):=Lh (by
     rw[HT2.out,List.length_append,List.flatMap_append]
     exact⟨by simpa using HF4.out.1,HF4.out.2⟩)
    go_roundw
    case rel=>exact⟨i+1,by go_num,by omega,HF⟩
    case measure=>exact mZ
  ·
   have hlI:¬(i:Int)< (P.length:Int):=by omega
   have hTR:(P.take i).filterMap (trF PS f)=R:=by rw[List.take_of_length_le kA,HT.out]
   have hF:=HO.out
   rw[hTR]at hF⊢
   obtain⟨K,hK⟩:∃K,R.length=K:=⟨_,rfl⟩
   rw[hK]at hF⊢
   have HF:=Lh hF
   clear hF hK HO HT hTR
   go_wp2_with fail
   go_ret
   exact⟨⟨_,rfl,HF.out.1.rep.ok fun c hc=>hc.elim id fun h=>Nat.le_trans HX2.out.1.size h⟩,HX2.out.1.trans HF.out.2⟩
end Go.Proofs.YtngmgjodcnknoaaGreatDoor
