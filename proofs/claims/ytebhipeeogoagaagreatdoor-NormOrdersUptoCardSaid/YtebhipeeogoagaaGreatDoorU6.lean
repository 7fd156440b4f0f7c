/-
 xout:the printer. Helper lemmas;no statement of the seat is proved here.
-/
import Derived.Test.YtebhipeeogoagaaGreatDoorU5
import Derived.Deep.DeepCutAuto
import Derived.Lib.SplitLaws
import Derived.Test.YtebhipeeogoagaaGreatDoorZhelf
namespace Go.Proofs.YtebhipeeogoagaaGreatDoor
open Go.RowKit
set_option maxHeartbeats 32000000
set_option maxRecDepth 100000
set_option linter.unusedVariables false
set_option linter.unusedSimpArgs false
theorem byte_str (c:UInt8) (W:World):(convert 44 9 (.slice (some ⟨W.heap.size,0,none⟩) 1 1)).run Tryz.prog (W.alloc (.cells #[.int .u8 (c.toNat:Int)] 5))= .ok (.string (bs [c])) (W.alloc (.cells #[.int .u8 (c.toNat:Int)] 5)):=by
 rw[run_convert_bytes_string _ _ _ _ _ _ _ Tryz.underlying44 Tryz.underlying5 Tryz.underlying9]
 rw[run_bytesToString _ _ _ _ [(c.toNat:Int)] (by go_simp)]
 congr 2
 simp[bs]
 rfl
theorem escaped_any (c:UInt8) (v:Bool) (W:World):
  Calls Tryz.prog 151 #[.int .u8 (c.toNat:Int),.bool v] W fun e w'=>e= .returned (.string (bs (escC v c)))∧Ext W w':=by
 have hcv:=byte_str c W
 obtain⟨R,hR⟩:∃R,bs (escC v c)=R:=⟨_,rfl⟩
 rw[hR]
 go_enter Tryz.func151,Tryz.ntmps151
 by_cases h38:c.toNat=38
 ·
  have q38:((c.toNat:Int)==38)=true:=by rw[h38];rfl
  have e:escC v c= [38,97,109,112,59]:=by unfold escC;simp[h38]
  rw[e]at hR
  clear e h38
  have HR:=Lh (show bs [38,97,109,112,59]=R from hR)
  clear hR
  go_wp2_with fail
  go_ret
  exact⟨by rw[←HR.out];rfl,Ext.refl _⟩
 have q38:((c.toNat:Int)==38)=false:=by rw[beq_eq_false_iff_ne];omega
 by_cases h60:c.toNat=60
 ·
  have q60:((c.toNat:Int)==60)=true:=by rw[h60];rfl
  have e:escC v c= [38,108,116,59]:=by unfold escC;simp[h60]
  rw[e]at hR
  clear e h60
  have HR:=Lh (show bs [38,108,116,59]=R from hR)
  clear hR
  go_wp2_with fail
  go_ret
  exact⟨by rw[←HR.out];rfl,Ext.refl _⟩
 have q60:((c.toNat:Int)==60)=false:=by rw[beq_eq_false_iff_ne];omega
 by_cases h13:c.toNat=13
 ·
  have q13:((c.toNat:Int)==13)=true:=by rw[h13];rfl
  have e:escC v c= [38,35,49,51,59]:=by unfold escC;simp[h13]
  rw[e]at hR
  clear e h13
  have HR:=Lh (show bs [38,35,49,51,59]=R from hR)
  clear hR
  go_wp2_with fail
  go_ret
  exact⟨by rw[←HR.out];rfl,Ext.refl _⟩
 have q13:((c.toNat:Int)==13)=false:=by rw[beq_eq_false_iff_ne];omega
 by_cases h62:c.toNat=62
 ·
  have q62:((c.toNat:Int)==62)=true:=by rw[h62];rfl
  cases v with
  | false=>
   have e:escC false c= [38,103,116,59]:=by unfold escC;simp[h62]
   rw[e]at hR
   clear e h62
   have HR:=Lh (show bs [38,103,116,59]=R from hR)
   clear hR
   go_wp2_with fail
   go_ret
   exact⟨by rw[←HR.out];rfl,Ext.refl _⟩
  | true=>
   have e:escC true c= [c]:=by unfold escC;simp[h62]
   rw[e]at hR
   have q34:((c.toNat:Int)==34)=false:=by rw[beq_eq_false_iff_ne];omega
   have q9:((c.toNat:Int)==9)=false:=by rw[beq_eq_false_iff_ne];omega
   have q10:((c.toNat:Int)==10)=false:=by rw[beq_eq_false_iff_ne];omega
   clear h62 e
   have HR:=Lh (show bs [c]=R from hR)
   clear hR
   go_wp2_with fail
   go_ret
   exact⟨by rw[←HR.out];rfl,(Ext.refl _).alloc _⟩
 have q62:((c.toNat:Int)==62)=false:=by rw[beq_eq_false_iff_ne];omega
 by_cases h34:c.toNat=34
 ·
  have q34:((c.toNat:Int)==34)=true:=by rw[h34];rfl
  cases v with
  | true=>
   have e:escC true c= [38,113,117,111,116,59]:=by unfold escC;simp[h34]
   rw[e]at hR
   clear e h34
   have HR:=Lh (show bs [38,113,117,111,116,59]=R from hR)
   clear hR
   go_wp2_with fail
   go_ret
   exact⟨by rw[←HR.out];rfl,Ext.refl _⟩
  | false=>
   have e:escC false c= [c]:=by unfold escC;simp[h34]
   rw[e]at hR
   have q9:((c.toNat:Int)==9)=false:=by rw[beq_eq_false_iff_ne];omega
   have q10:((c.toNat:Int)==10)=false:=by rw[beq_eq_false_iff_ne];omega
   clear h34 e
   have HR:=Lh (show bs [c]=R from hR)
   clear hR
   go_wp2_with fail
   go_ret
   exact⟨by rw[←HR.out];rfl,(Ext.refl _).alloc _⟩
 have q34:((c.toNat:Int)==34)=false:=by rw[beq_eq_false_iff_ne];omega
 by_cases h9:c.toNat=9
 ·
  have q9:((c.toNat:Int)==9)=true:=by rw[h9];rfl
  cases v with
  | true=>
   have e:escC true c= [38,35,57,59]:=by unfold escC;simp[h9]
   rw[e]at hR
   clear e h9
   have HR:=Lh (show bs [38,35,57,59]=R from hR)
   clear hR
   go_wp2_with fail
   go_ret
   exact⟨by rw[←HR.out];rfl,Ext.refl _⟩
  | false=>
   have e:escC false c= [c]:=by unfold escC;simp[h9]
   rw[e]at hR
   have q10:((c.toNat:Int)==10)=false:=by rw[beq_eq_false_iff_ne];omega
   clear h9 e
   have HR:=Lh (show bs [c]=R from hR)
   clear hR
   go_wp2_with fail
   go_ret
   exact⟨by rw[←HR.out];rfl,(Ext.refl _).alloc _⟩
 have q9:((c.toNat:Int)==9)=false:=by rw[beq_eq_false_iff_ne];omega
 by_cases h10:c.toNat=10
 ·
  have q10:((c.toNat:Int)==10)=true:=by rw[h10];rfl
  cases v with
  | true=>
   have e:escC true c= [38,35,49,48,59]:=by unfold escC;simp[h10]
   rw[e]at hR
   clear e h10
   have HR:=Lh (show bs [38,35,49,48,59]=R from hR)
   clear hR
   go_wp2_with fail
   go_ret
   exact⟨by rw[←HR.out];rfl,Ext.refl _⟩
  | false=>
   have e:escC false c= [c]:=by unfold escC;simp[h10]
   rw[e]at hR
   clear h10 e
   have HR:=Lh (show bs [c]=R from hR)
   clear hR
   go_wp2_with fail
   go_ret
   exact⟨by rw[←HR.out];rfl,(Ext.refl _).alloc _⟩
 have q10:((c.toNat:Int)==10)=false:=by rw[beq_eq_false_iff_ne];omega
 have e:escC v c= [c]:=by unfold escC;simp[h38,h60,h13,h62,h34,h9,h10]
 rw[e]at hR
 have HR:=Lh (show bs [c]=R from hR)
 clear hR
 go_wp2_with fail
 go_ret
 exact⟨by rw[←HR.out];rfl,(Ext.refl _).alloc _⟩
theorem escC_len (v:Bool) (c:UInt8):(escC v c).length≤6:=by
 unfold escC
 repeat' split
 all_goals simp
theorem escS_len (v:Bool):∀l:Bytes,(escS v l).length≤6*l.length
 | []=>by simp[escS]
 | c::r=>by
  have h1:=escC_len v c
  have h2:=escS_len v r
  unfold escS at*
  rw[List.flatMap_cons,List.length_append,List.length_cons];omega
theorem escS_step (v:Bool) (l:Bytes) (i:Nat) (h:i< l.length):escS v (l.take (i+1))=escS v (l.take i)++escC v l[i]:=by
 unfold escS
 rw[List.take_add_one,List.getElem?_eq_getElem h,List.flatMap_append];simp
theorem escS_take (v:Bool) (l:Bytes) (k:Nat):(escS v (l.take k)).length≤(escS v l).length:=by
 conv=>rhs;rw[←List.take_append_drop k l]
 unfold escS
 rw[List.flatMap_append,List.length_append];omega
theorem escS_ge (v:Bool):∀l:Bytes,l.length≤(escS v l).length
 | []=>Nat.zero_le _
 | c::r=>by
  have h1:1≤(escC v c).length:=by unfold escC;(repeat' split)<;> simp
  have h2:=escS_ge v r
  unfold escS at*
  rw[List.flatMap_cons,List.length_append,List.length_cons];omega
theorem PB.fresh {w0 W:World} {L:Bytes} (h:PB w0 W L) (o:Obj):Fz w0 (W.alloc o) W.heap.size:=by
 have hl:=h.lt
 refine⟨by omega,fun dv hd e=> ?_⟩
 rw[World.cell?_of_block (Below.heap_alloc _ _ _ hl)]at hd
 rcases h.1 with k | k
 all_goals
  obtain⟨_,v,hb,hown,_⟩:=k
  rw[Lib.cell_of_heap hb]at hd
  obtain rfl:v=dv:=by simpa using hd
  have:=(hown.lt _ e.symm).2
  omega
theorem put_new (w0 W:World) (L:Bytes) (ss:List Bytes) (hL:L.length+ss.flatten.length≤140737488355328) (hn:ss.length≤3) (h:PB w0 W L):
  Calls Tryz.prog 104 #[.pointer (some ⟨w0.heap.size,0,none⟩),.slice (some ⟨W.heap.size,0,none⟩) ss.length ss.length] (W.alloc (.cells (ss.map fun s=>Value.string (bs s)).toArray 9)) fun e w'=>(∃u,e= .returned u)∧PB w0 w' (L++ss.flatten)∧PK w0 W w':=by
 have hE:Ext W (W.alloc (.cells (ss.map fun s=>Value.string (bs s)).toArray 9)):=(Ext.refl W).alloc _
 refine(put_any w0 _ L ss W.heap.size 0 ss.length hL hn (h.ext hE) (by simp) (h.fresh _) (fun j hj=> ?_)).mono fun e w' ⟨h1,h2,h3⟩=>⟨h1,h2,(PK.ext h.lt hE).trans h3⟩
 rw[Nat.zero_add]
 simp[go_sem,hj]
theorem chars_any (w0 W:World) (L s:Bytes) (v:Bool) (hL:L.length+(escS v s).length≤140737488355328) (h:PB w0 W L):
  Calls Tryz.prog 103 #[.pointer (some ⟨w0.heap.size,0,none⟩),.string (bs s),.bool v] W fun e w'=>(∃u,e= .returned u)∧PB w0 w' (L++escS v s)∧PK w0 W w':=by
 have HB:=Lh h
 have HL:=Lh hL
 have hsz:(bs s).size≤140737488355328:=by rw[bs_size];have:=escS_ge v s;omega
 clear h hL
 go_enter Tryz.func103,Tryz.ntmps103
 go_wp2_with fail
 go_loopw [6,9] (fun _ t wr=>∃i:Nat,t= .int .i64 i∧i≤(bs s).size∧Hid (PB w0 wr (L++escS v (s.take i))∧PK w0 W wr)) (fun _ t _=>downV (bs s).size t)
 case atStart=>exact⟨0,rfl,Nat.zero_le _,Lh ⟨by simpa [escS]using HB.out,PK.refl _ _⟩⟩
 case round=>
  obtain⟨i,rfl,hi,HI⟩:=hrel
  have hi0:(0:Int)≤(i:Int):=by omega
  by_cases hlt:i< (bs s).size
  ·
   have hlI:(i:Int)< ((bs s).size:Int):=by omega
   have hl2:i< s.length:=by rw[bs_size]at hlt;exact hlt
   have hst:=escS_step v s i hl2
   have hc:(bs s)[i]'hlt=s[i]'hl2:=bs_getE s i hlt
   rw[←hc]at hst
   have hEl:=escS_take v s (i+1)
   obtain⟨c,hcc⟩:∃c,(bs s)[i]'hlt=c:=⟨_,rfl⟩
   rw[hcc]at hst
   have hv:(bs s)[i]'hlt=c:=hcc
   have hEC:=escC_len v c
   have HES:=Lh (escaped_any c v wr)
   obtain⟨T,hT⟩:∃T,escC v c=T:=⟨_,rfl⟩
   rw[hT]at HES hst hEC
   rw[hst,List.length_append]at hEl
   have HP:=Lh fun W1 (hE:Ext wr W1)=>put_new w0 W1 (L++escS v (s.take i)) [T] (by have:=HL.out;simp only[List.flatten_cons,List.flatten_nil,List.append_nil,List.length_append];omega) (by simp) (HI.out.1.ext hE)
   have HST:=Lh hst
   have HLW:=Lh HI.out.1.lt
   have HLT:=Lh hlt
   clear hst hc hcc hEC hEl hT hl2
   go_wp2_with fail
   refine HES.out.mono ?_
   rintro e w1 ⟨rfl,hB1⟩
   have HP2:=Lh (HP.out w1 hB1)
   clear HP HES
   go_wp2_with fail
   refine HP2.out.mono ?_
   rintro e w2 ⟨⟨u,rfl⟩,hP2,hK2⟩
   have HN:Hid (PB w0 w2 (L++escS v (s.take (i+1)))∧PK w0 W w2):=Lh ⟨by rw[HST.out,←List.append_assoc];simpa using hP2,(HI.out.2.trans (PK.ext HLW.out hB1)).trans hK2⟩
   clear HP2 HI hP2 hK2 hB1
   go_wp2_with fail
   go_roundw
   case rel=>exact⟨i+1,by go_num,HLT.out,HN⟩
   case measure=>have:=HLT.out;simp only[downV];omega
  ·
   have hlI:¬(i:Int)< ((bs s).size:Int):=by omega
   have HN:Hid (PB w0 wr (L++escS v s)∧PK w0 W wr):=Lh (by have:=HI.out;rwa [List.take_of_length_le (by rw[bs_size]at hlt;omega)]at this)
   clear HI
   go_wp2_with fail
   refine bodyPost_end (results_none rfl _ _ _) rfl ?_
   exact⟨⟨_,rfl⟩,HN.out⟩
structure PS (w0 w1 w:World) (L:Bytes):Prop where
 b:PB w0 w L
 k:PK w0 w1 w
theorem PS.cell {w0 w1 w:World} {L:Bytes} (h:PS w0 w1 w L) {b o:Nat} (hb:b< w1.heap.size) (hf:Fz w0 w1 b) {v:Value} (hc:w1.cell? ⟨b,o,none⟩=some v):w.cell? ⟨b,o,none⟩=some v:=h.k.cell hb hf hc
theorem PS.next {w0 w1 w w':World} {L M:Bytes} (h:PS w0 w1 w L) (hb:PB w0 w' M) (hk:PK w0 w w'):PS w0 w1 w' M:=⟨hb,h.k.trans hk⟩
def elT (n:Node):Bytes:=if n.kids.length=0 then([60]++n.name++n.attrs.flatMap attrT)++ [47,62]else([60]++n.name++n.attrs.flatMap attrT)++ [62]++txtL n.kids++ [60,47]++n.name++ [62]
theorem txtN_el (n:Node) (h:n.kind=1):txtN n=elT n:=by
 cases n with
 | mk k nm t la ks=>
  have hk:k=1:=h
  subst hk
  rw[txtN];unfold elT;rfl
theorem flatA_len (la:List Attr) (i:Nat):((la.take i).flatMap attrT).length≤(la.flatMap attrT).length:=by
 conv=>rhs;rw[←List.take_append_drop i la]
 rw[List.flatMap_append,List.length_append];omega
theorem txtL_app:∀a b:List Node,txtL (a++b)=txtL a++txtL b
 | [],b=>by rw[txtL];rfl
 | n::r,b=>by rw[List.cons_append,txtL,txtL,txtL_app r b,List.append_assoc]
theorem txtL_step (l:List Node) (i:Nat) (h:i< l.length):txtL (l.take (i+1))=txtL (l.take i)++txtN l[i]:=by
 rw[←List.take_append_getElem h,txtL_app,txtL,txtL,List.append_nil]
theorem txtL_len (l:List Node) (i:Nat):(txtL (l.take i)).length≤(txtL l).length:=by
 conv=>rhs;rw[←List.take_append_drop i l]
 rw[txtL_app,List.length_append];omega
def NodeP (N:Nat):Prop:=∀(n:Node) (w0 W:World) (L:Bytes) (p:Nat→Prop) (xa xk:Value),nsz n≤N→L.length+(txtN n).length≤140737488355328→PB w0 W L→Rep w0 p xa (attrsD n.attrs)→Rep w0 p xk (nodesD n.kids)→cntN n≤1048576→
  Calls Tryz.prog 62 #[.pointer (some ⟨w0.heap.size,0,none⟩),.agg #[.int .i64 n.kind,.string (bs n.name),.string (bs n.text),xa,xk]] W fun e w'=>(∃u,e= .returned u)∧PB w0 w' (L++txtN n)∧PK w0 W w'
theorem element_any (N:Nat) (ih:NodeP N) (n:Node) (w0 W:World) (L:Bytes) (p:Nat→Prop) (xa xk:Value) (hN:nszL n.kids≤N) (hL:L.length+(elT n).length≤140737488355328) (h:PB w0 W L) (hva:Rep w0 p xa (attrsD n.attrs)) (hvk:Rep w0 p xk (nodesD n.kids)) (hcnt:cntN n≤1048576):
  Calls Tryz.prog 102 #[.pointer (some ⟨w0.heap.size,0,none⟩),.agg #[.int .i64 n.kind,.string (bs n.name),.string (bs n.text),xa,xk]] W fun e w'=>(∃u,e= .returned u)∧PB w0 w' (L++elT n)∧PK w0 W w':=by
 obtain⟨ba,ca,rfl,ha1,ha2⟩:=hva.count z_attr (by omega)
 obtain⟨bk,ck,rfl,hk1,hk2⟩:=hvk.count z_node (by omega)
 have hck:=cnt_kids n
 have hckl:=cntL_len n.kids
 have hkids:n.kids.length≤1048576:=by omega
 have hcL:cntL n.kids≤1048576:=by omega
 obtain⟨cx,hcx⟩:∃o,Obj.cells #[.int .i64 n.kind,.string (bs n.name),.string (bs n.text),.slice ba n.attrs.length ca,.slice bk n.kids.length ck] 26=o:=⟨_,rfl⟩
 obtain⟨w1,hw1⟩:∃w1,W.alloc cx=w1:=⟨_,rfl⟩
 obtain⟨g3,hg3⟩:∃g,W.heap.size=g:=⟨_,rfl⟩
 have hE1:Ext W w1:=by rw[←hw1];exact(Ext.refl W).alloc _
 have hb3:B5 w1 g3 n (.slice ba n.attrs.length ca) (.slice bk n.kids.length ck):=by rw[←hw1,←hg3,←hcx];exact b5_box W n _ _
 have hf3:Fz w0 w1 g3:=by rw[←hw1,←hg3];exact h.fresh _
 have hS1:PS w0 w1 w1 L:=⟨h.ext hE1,PK.refl _ _⟩
 have HK0:=Lh (PK.ext h.lt hE1)
 have HB3:=Lh (And.intro hb3 hf3)
 have HW:=Lh (And.intro hw1 hg3)
 have c1:=hb3.c1
 have c3:=hb3.c3
 have c4:=hb3.c4
 -- the lengths of what is written
 have hAn:L.length+(1+n.name.length+(n.attrs.flatMap attrT).length)+2≤140737488355328∧(n.kids.length≠0→L.length+(1+n.name.length+(n.attrs.flatMap attrT).length+1+(txtL n.kids).length+2+n.name.length+1)≤140737488355328):=by
  unfold elT at hL
  split at hL
  ·
   rename_i hz
   simp only[List.length_append,List.length_cons,List.length_nil]at hL
   exact⟨by omega,fun h=>absurd hz h⟩
  ·
   simp only[List.length_append,List.length_cons,List.length_nil]at hL
   exact⟨by omega,fun _=>by omega⟩
 have HLN:=Lh hAn
 have HP1:=Lh (put_new w0 w1 L [[60],n.name] (by have:=HLN.out;simp only[List.flatten_cons,List.flatten_nil,List.append_nil,List.length_append,List.length_cons,List.length_nil];omega) (by simp) hS1.b)
 have HN:=Lh hN
 have HS1:=Lh hS1
 clear hL h hw1 hg3 hE1 hb3 hf3 hck hckl hN hS1 hAn
 go_enter Tryz.func102,Tryz.ntmps102
 go_upto_region 1 with fail
 rw[HW.out.1,HW.out.2]
 go_wp2_with fail
 refine HP1.out.mono ?_
 rintro e w2 ⟨⟨u,rfl⟩,hP2,hK2⟩
 have hS2:PS w0 w1 w2 (L++([60]++n.name)):=HS1.out.next (by simpa using hP2) hK2
 have c3:=hS2.cell HB3.out.1.lt HB3.out.2 c3
 have HS2:=Lh hS2
 clear hS2 hP2 hK2 HP1 c1 c4
 go_wp2_with fail
 go_loopw [5,16] (fun _ t wr=>∃i:Nat,t= .int .i64 i∧i≤n.attrs.length∧Hid (PS w0 w1 wr (L++([60]++n.name++(n.attrs.take i).flatMap attrT)))) (fun _ t _=>downV n.attrs.length t)
 case atStart=>exact⟨0,rfl,Nat.zero_le _,Lh (by simpa using HS2.out)⟩
 case round=>
  clear c3 HS2
  obtain⟨i,rfl,hi,HI⟩:=hrel
  have hi0:(0:Int)≤(i:Int):=by omega
  by_cases hlt:i< n.attrs.length
  ·
   have hlI:(i:Int)< (n.attrs.length:Int):=by omega
   obtain⟨ga,oa,rfl,lga,_,d1,d2⟩:=attr_at (hva.ext HI.out.b.2) i hlt
   have hst:(n.attrs.take (i+1)).flatMap attrT=(n.attrs.take i).flatMap attrT++attrT n.attrs[i]:=by rw[←List.take_append_getElem hlt,List.flatMap_append];simp
   have hle:=flatA_len n.attrs (i+1)
   obtain⟨y,hy⟩:∃y,n.attrs[i]=y:=⟨_,rfl⟩
   rw[hy]at d1 d2 hst
   obtain⟨w5,hw5⟩:∃W,wr.alloc (.cells #[.string (bs y.n),.string (bs y.v)] 62)=W:=⟨_,rfl⟩
   obtain⟨g5,hg5⟩:∃g,wr.heap.size=g:=⟨_,rfl⟩
   have hE5:Ext wr w5:=by rw[←hw5];exact(Ext.refl wr).alloc _
   have e0:w5.cell? ⟨g5,0,none⟩=some (.string (bs y.n)):=by rw[←hw5,←hg5];simp[go_sem]
   have e1:w5.cell? ⟨g5,1,none⟩=some (.string (bs y.v)):=by rw[←hw5,←hg5];simp[go_sem]
   have l5:g5< w5.heap.size:=by rw[←hw5,←hg5];simp
   have hf5:Fz w0 w5 g5:=by rw[←hw5,←hg5];exact HI.out.b.fresh _
   have HW5:=Lh (And.intro hw5 hg5)
   have hA:(attrT y).length=1+y.n.length+2+(escS true y.v).length+1:=by unfold attrT;simp only[List.length_append,List.length_cons,List.length_nil]
   rw[hst,List.length_append]at hle
   obtain⟨M,hM⟩:∃M,L++([60]++n.name++(n.attrs.take i).flatMap attrT)=M:=⟨_,rfl⟩
   have hMl:M.length+(attrT y).length≤140737488355328:=by
    rw[←hM];have:=HLN.out.1;simp only[List.length_append,List.length_cons,List.length_nil];omega
   have hMn:L++([60]++n.name++(n.attrs.take (i+1)).flatMap attrT)=M++ [32]++y.n++ [61,34]++escS true y.v++ [34]:=by
    rw[hst,←hM];unfold attrT;simp only[List.append_assoc]
   rw[hM]at HI
   have hS5:PS w0 w5 w5 M:=⟨HI.out.b.ext hE5,PK.refl _ _⟩
   have HK5:=Lh (PK.ext HI.out.b.lt hE5)
   have HM:=Lh (And.intro hMl (And.intro hA (And.intro hMn hf5)))
   have HPa:=Lh (put_new w0 w5 M [[32],y.n,[61,34]] (by simp only[List.flatten_cons,List.flatten_nil,List.append_nil,List.length_append,List.length_cons,List.length_nil];omega) (by simp) hS5.b)
   have HS5:=Lh hS5
   clear hS5 hy hle hw5 hg5 hE5 hM hMl hMn hst hA hf5
   go_upto_region 5 with fail
   rw[HW5.out.1,HW5.out.2]
   go_wp2_with fail
   refine HPa.out.mono ?_
   rintro e w6 ⟨⟨u6,rfl⟩,hP6,hK6⟩
   have hS6:PS w0 w5 w6 (M++([32]++y.n++ [61,34])):=HS5.out.next (by simpa using hP6) hK6
   have e1:=hS6.cell l5 HM.out.2.2.2 e1
   have HPb:=Lh (chars_any w0 w6 (M++([32]++y.n++ [61,34])) y.v true (by have:=HM.out.1;have:=HM.out.2.1;simp only[List.length_append,List.length_cons,List.length_nil];omega) hS6.b)
   have HS6:=Lh hS6
   clear hS6 hP6 hK6 HPa e0 HS5
   go_wp2_with fail
   refine HPb.out.mono ?_
   rintro e w7 ⟨⟨u7,rfl⟩,hP7,hK7⟩
   have hS7:=HS6.out.next hP7 hK7
   have HPc:=Lh (put_new w0 w7 _ [[34]] (by have:=HM.out.1;have:=HM.out.2.1;simp only[List.flatten_cons,List.flatten_nil,List.append_nil,List.length_append,List.length_cons,List.length_nil];omega) (by simp) hS7.b)
   have HS7:=Lh hS7
   clear hS7 hP7 hK7 HPb e1 HS6
   go_wp2_with fail
   refine HPc.out.mono ?_
   rintro e w8 ⟨⟨u8,rfl⟩,hP8,hK8⟩
   have HN8:Hid (PS w0 w1 w8 (L++([60]++n.name++(n.attrs.take (i+1)).flatMap attrT))):=Lh ⟨by rw[HM.out.2.2.1];simpa using hP8,((HI.out.k.trans HK5.out).trans HS7.out.k).trans hK8⟩
   clear HPc hP8 hK8 HS7 HI
   go_wp2_with fail
   go_roundw
   case rel=>exact⟨i+1,by go_num,by omega,HN8⟩
   case measure=>simp only[downV];omega
  ·
   have hlI:¬(i:Int)< (n.attrs.length:Int):=by omega
   have hS:=HI.out
   rw[List.take_of_length_le (by omega)]at hS
   obtain⟨A,hA⟩:∃A,n.attrs.flatMap attrT=A:=⟨_,rfl⟩
   rw[hA]at hS HLN
   have c4':=hS.cell HB3.out.1.lt HB3.out.2 HB3.out.1.c4
   have c1':=hS.cell HB3.out.1.lt HB3.out.2 HB3.out.1.c1
   have HEL:Hid (elT n=if n.kids.length=0 then([60]++n.name++A)++ [47,62]else([60]++n.name++A)++ [62]++txtL n.kids++ [60,47]++n.name++ [62]):=Lh (by unfold elT;rw[hA])
   clear hA HI
   by_cases hk0:n.kids.length=0
   ·
    have hkI:((n.kids.length:Int)==0)=true:=by rw[hk0];rfl
    have HPa:=Lh (put_new w0 wr _ [[47,62]] (by have:=HLN.out.1;simp only[List.flatten_cons,List.flatten_nil,List.append_nil,List.length_append,List.length_cons,List.length_nil];omega) (by simp) hS.b)
    have HE:=Lh (show elT n=([60]++n.name++A)++ [47,62] by rw[HEL.out,if_pos hk0])
    have HS:=Lh hS
    clear hS HEL hk0
    go_wp2_with fail
    refine HPa.out.mono ?_
    rintro e w8 ⟨⟨u8,rfl⟩,hP8,hK8⟩
    have HN8:Hid (PB w0 w8 (L++elT n)∧PK w0 W w8):=Lh ⟨by rw[HE.out];simpa using hP8,(HK0.out.trans HS.out.k).trans hK8⟩
    clear HPa hP8 hK8 HS
    go_wp2_with fail
    refine bodyPost_ret (results_none rfl _ _ _) rfl ?_
    exact⟨⟨_,rfl⟩,HN8.out⟩
   ·
    have hkI:((n.kids.length:Int)==0)=false:=by rw[beq_eq_false_iff_ne];omega
    have HL2:=Lh (HLN.out.2 hk0)
    have HPa:=Lh (put_new w0 wr _ [[62]] (by have:=HL2.out;simp only[List.flatten_cons,List.flatten_nil,List.append_nil,List.length_append,List.length_cons,List.length_nil];omega) (by simp) hS.b)
    have HE:=Lh (show elT n=([60]++n.name++A)++ [62]++txtL n.kids++ [60,47]++n.name++ [62] by rw[HEL.out,if_neg hk0])
    have HS:=Lh hS
    clear hS HEL hk0
    go_wp2_with fail
    refine HPa.out.mono ?_
    rintro e w8 ⟨⟨u8,rfl⟩,hP8,hK8⟩
    have hS8:PS w0 w1 w8 (L++([60]++n.name++A++ [62])):=HS.out.next (by simpa using hP8) hK8
    have c4'':=hS8.cell HB3.out.1.lt HB3.out.2 HB3.out.1.c4
    have HS8:=Lh hS8
    clear HPa hP8 hK8 HS hS8 c4' c1'
    go_wp2_with fail
    go_loopw [7,46] (fun _ t wr=>∃i:Nat,t= .int .i64 i∧i≤n.kids.length∧Hid (PS w0 w1 wr (L++([60]++n.name++A++ [62]++txtL (n.kids.take i))))) (fun _ t _=>downV n.kids.length t)
    case atStart=>exact⟨0,rfl,Nat.zero_le _,Lh (by simpa [txtL]using HS8.out)⟩
    case round=>
     clear c4'' HS8
     obtain⟨i,rfl,hi,HI⟩:=hrel
     have hi0:(0:Int)≤(i:Int):=by omega
     by_cases hlt:i< n.kids.length
     ·
      have hlI:(i:Int)< (n.kids.length:Int):=by omega
      obtain⟨gk,ok,za,zk,rfl,lgk,_,d0,d1,d2,d3,d4,hza,hzk⟩:=node_at hvk i hlt
      have hX:=HI.out.b.2
      have e0:=hX.keep lgk d0;have e1:=hX.keep lgk d1;have e2:=hX.keep lgk d2;have e3:=hX.keep lgk d3;have e4:=hX.keep lgk d4
      have hst:=txtL_step n.kids i hlt
      have hle:=txtL_len n.kids (i+1)
      have hnz:=nszL_get n.kids i hlt
      have hkc:=kid_le n.kids i hlt
      obtain⟨y,hy⟩:∃y,n.kids[i]=y:=⟨_,rfl⟩
      rw[hy]at e0 e1 e2 hza hzk hst hnz hkc
      obtain⟨zab,zac,rfl,_,_⟩:=hza.count z_attr (by omega)
      obtain⟨zkb,zkc,rfl,_,_⟩:=hzk.count z_node (by omega)
      obtain⟨w5,hw5⟩:∃W,wr.alloc (.cells #[.int .i64 y.kind,.string (bs y.name),.string (bs y.text),.slice zab y.attrs.length zac,.slice zkb y.kids.length zkc] 26)=W:=⟨_,rfl⟩
      obtain⟨g5,hg5⟩:∃g,wr.heap.size=g:=⟨_,rfl⟩
      have hE5:Ext wr w5:=by rw[←hw5];exact(Ext.refl wr).alloc _
      have hb5:B5 w5 g5 y (.slice zab y.attrs.length zac) (.slice zkb y.kids.length zkc):=by rw[←hw5,←hg5];exact b5_box wr y _ _
      have n0:=hb5.c0;have n1:=hb5.c1;have n2:=hb5.c2;have n3:=hb5.c3;have n4:=hb5.c4
      have HW5:=Lh (And.intro hw5 hg5)
      rw[hst,List.length_append]at hle
      have HPb:=Lh (ih y w0 w5 (L++([60]++n.name++A++ [62]++txtL (n.kids.take i))) p _ _ (by have:=HN.out;omega) (by have:=HL2.out;simp only[List.length_append,List.length_cons,List.length_nil];omega) (HI.out.b.ext hE5) hza hzk (by omega))
      have HK5:=Lh (HI.out.k.trans (PK.ext HI.out.b.lt hE5))
      have HST:=Lh hst
      clear hy hw5 hg5 hE5 hb5 hst hle hnz hkc hza hzk d0 d1 d2 d3 d4 hX
      go_upto_region 15 with fail
      rw[HW5.out.1,HW5.out.2]
      clear e0 e1 e2 e3 e4
      go_wp2_with fail
      refine HPb.out.mono ?_
      rintro e w6 ⟨⟨u6,rfl⟩,hP6,hK6⟩
      have HN6:Hid (PS w0 w1 w6 (L++([60]++n.name++A++ [62]++txtL (n.kids.take (i+1))))):=Lh ⟨by rw[HST.out];simpa using hP6,HK5.out.trans hK6⟩
      clear HPb hP6 hK6 HI
      go_wp2_with fail
      go_roundw
      case rel=>exact⟨i+1,by go_num,by omega,HN6⟩
      case measure=>simp only[downV];omega
     ·
      have hlI:¬(i:Int)< (n.kids.length:Int):=by omega
      have hS:=HI.out
      rw[List.take_of_length_le (by omega)]at hS
      have c1'':=hS.cell HB3.out.1.lt HB3.out.2 HB3.out.1.c1
      have HPb:=Lh (put_new w0 wr _ [[60,47],n.name,[62]] (by have:=HL2.out;simp only[List.flatten_cons,List.flatten_nil,List.append_nil,List.length_append,List.length_cons,List.length_nil];omega) (by simp) hS.b)
      have HS:=Lh hS
      clear hS HI
      go_wp2_with fail
      refine HPb.out.mono ?_
      rintro e w6 ⟨⟨u6,rfl⟩,hP6,hK6⟩
      have HN6:Hid (PB w0 w6 (L++elT n)∧PK w0 W w6):=Lh ⟨by rw[HE.out];simpa using hP6,(HK0.out.trans HS.out.k).trans hK6⟩
      clear HPb hP6 hK6 HS
      go_wp2_with fail
      refine bodyPost_end (results_none rfl _ _ _) rfl ?_
      exact⟨⟨_,rfl⟩,HN6.out⟩
theorem txt_2 (n:Node) (h:n.kind=2):txtN n=escS false n.text:=by
 cases n with | mk k nm t la ks=>have hk:k=2:=h;subst hk;rw[txtN,if_pos rfl];rfl
theorem txt_3 (n:Node) (h:n.kind=3):txtN n= [60,33,45,45]++n.text++ [45,45,62]:=by
 cases n with | mk k nm t la ks=>have hk:k=3:=h;subst hk;rw[txtN,if_neg (by decide),if_pos rfl];rfl
theorem txt_4 (n:Node) (h:n.kind=4):txtN n=if n.text= []then [60,63]++n.name++ [63,62]else [60,63]++n.name++ [32]++n.text++ [63,62]:=by
 cases n with | mk k nm t la ks=>have hk:k=4:=h;subst hk;rw[txtN,if_neg (by decide),if_neg (by decide),if_pos rfl];rfl
theorem txt_5 (n:Node) (h1:n.kind≠1) (h2:n.kind≠2) (h3:n.kind≠3) (h4:n.kind≠4):txtN n= []:=by
 cases n with | mk k nm t la ks=>have e1:k≠1:=h1;have e2:k≠2:=h2;have e3:k≠3:=h3;have e4:k≠4:=h4;rw[txtN,if_neg e2,if_neg e3,if_neg e4,if_pos e1]
theorem nsz_kids (n:Node):nszL n.kids< nsz n:=by
 cases n;rw[nsz];show nszL _< _;simp only[Node.kids];omega
theorem node_any:∀N:Nat,NodeP N:=by
 intro N
 induction N with
 | zero=>intro n w0 W L p xa xk hN;have:=nsz_kids n;omega
 | succ N ih=>
 intro n w0 W L p xa xk hN hL h hva hvk hcnt
 obtain⟨ba,ca,rfl,ha1,ha2⟩:=hva.count z_attr (by omega)
 obtain⟨bk,ck,rfl,hk1,hk2⟩:=hvk.count z_node (by omega)
 obtain⟨w1,hw1⟩:∃w1,W.alloc (.cells #[.int .i64 n.kind,.string (bs n.name),.string (bs n.text),.slice ba n.attrs.length ca,.slice bk n.kids.length ck] 26)=w1:=⟨_,rfl⟩
 obtain⟨g3,hg3⟩:∃g,W.heap.size=g:=⟨_,rfl⟩
 have hE1:Ext W w1:=by rw[←hw1];exact(Ext.refl W).alloc _
 have hb3:B5 w1 g3 n (.slice ba n.attrs.length ca) (.slice bk n.kids.length ck):=by rw[←hw1,←hg3];exact b5_box W n _ _
 have hf3:Fz w0 w1 g3:=by rw[←hw1,←hg3];exact h.fresh _
 have hS1:PS w0 w1 w1 L:=⟨h.ext hE1,PK.refl _ _⟩
 have HK0:=Lh (PK.ext h.lt hE1)
 have HB3:=Lh (And.intro hb3 hf3)
 have HW:=Lh (And.intro hw1 hg3)
 have HS1:=Lh hS1
 have c0:=hb3.c0;have c1:=hb3.c1;have c2:=hb3.c2;have c3:=hb3.c3;have c4:=hb3.c4
 have hlen:=cntN_own n
 have hnk:=nsz_kids n
 obtain⟨TX,hTX⟩:∃T,txtN n=T:=⟨_,rfl⟩
 rw[hTX]at hL⊢
 have HEL:Hid (n.kind=1→Calls Tryz.prog 102 #[.pointer (some ⟨w0.heap.size,0,none⟩),.agg #[.int .i64 n.kind,.string (bs n.name),.string (bs n.text),.slice ba n.attrs.length ca,.slice bk n.kids.length ck]] w1 fun e w'=>(∃u,e= .returned u)∧PB w0 w' (L++TX)∧PK w0 w1 w'):=Lh fun hk=>by
  have e:=txtN_el n hk
  rw[hTX]at e
  rw[e]at hL⊢
  exact element_any N ih n w0 w1 L p _ _ (by omega) hL hS1.b hva hvk hcnt
 have HTX:=Lh hTX
 have HL:=Lh hL
 clear hva hvk hE1 hb3 hf3 hS1 h hw1 hg3 hTX hL
 go_enter Tryz.func62,Tryz.ntmps62
 go_upto_region 1 with fail
 rw[HW.out.1,HW.out.2]
 clear hN hnk
 by_cases hk:n.kind=1
 ·
  have q1:(n.kind==1)=true:=by rw[hk];rfl
  have q2:(n.kind==2)=false:=by rw[hk];rfl
  have q3:(n.kind==3)=false:=by rw[hk];rfl
  have q4:(n.kind==4)=false:=by rw[hk];rfl
  have HC:=Lh (HEL.out hk)
  clear hk HEL hlen
  go_wp2_with fail
  refine HC.out.mono ?_
  rintro e w2 ⟨⟨u,rfl⟩,hP,hK⟩
  have HN:=Lh (And.intro hP (HK0.out.trans hK))
  clear hP hK HC
  go_wp2_with fail
  refine bodyPost_end (results_none rfl _ _ _) rfl ?_
  exact⟨⟨_,rfl⟩,HN.out⟩
 have q1:(n.kind==1)=false:=by rw[beq_eq_false_iff_ne];exact hk
 by_cases hk2:n.kind=2
 ·
  have q2:(n.kind==2)=true:=by rw[hk2];rfl
  have q3:(n.kind==3)=false:=by rw[hk2];rfl
  have q4:(n.kind==4)=false:=by rw[hk2];rfl
  have hT:escS false n.text=TX:=by rw[←txt_2 n hk2];exact HTX.out
  have HC:=Lh (chars_any w0 w1 L n.text false (by rw[hT];exact HL.out) HS1.out.b)
  rw[hT]at HC
  clear hk hk2 HEL hlen hT
  go_wp2_with fail
  refine HC.out.mono ?_
  rintro e w2 ⟨⟨u,rfl⟩,hP,hK⟩
  have HN:=Lh (And.intro hP (HK0.out.trans hK))
  clear hP hK HC
  go_wp2_with fail
  refine bodyPost_end (results_none rfl _ _ _) rfl ?_
  exact⟨⟨_,rfl⟩,HN.out⟩
 have q2:(n.kind==2)=false:=by rw[beq_eq_false_iff_ne];exact hk2
 by_cases hk3:n.kind=3
 ·
  have q3:(n.kind==3)=true:=by rw[hk3];rfl
  have q4:(n.kind==4)=false:=by rw[hk3];rfl
  have hT: [[60,33,45,45],n.text,[45,45,62]].flatten=TX:=by rw[←HTX.out,txt_3 n hk3];simp
  have HC:=Lh (put_new w0 w1 L [[60,33,45,45],n.text,[45,45,62]] (by rw[hT];exact HL.out) (by simp) HS1.out.b)
  rw[hT]at HC
  clear hk hk2 hk3 HEL hlen hT
  go_wp2_with fail
  refine HC.out.mono ?_
  rintro e w2 ⟨⟨u,rfl⟩,hP,hK⟩
  have HN:=Lh (And.intro hP (HK0.out.trans hK))
  clear hP hK HC
  go_wp2_with fail
  refine bodyPost_end (results_none rfl _ _ _) rfl ?_
  exact⟨⟨_,rfl⟩,HN.out⟩
 have q3:(n.kind==3)=false:=by rw[beq_eq_false_iff_ne];exact hk3
 by_cases hk4:n.kind=4
 ·
  have q4:(n.kind==4)=true:=by rw[hk4];rfl
  have hT:=txt_4 n hk4
  rw[HTX.out]at hT
  by_cases ht:n.text= []
  ·
   rw[if_pos ht]at hT
   have hTl:TX.length=2+n.name.length+2:=by rw[hT];simp only[List.length_append,List.length_cons,List.length_nil]
   have t1:((bs n.text).toList != [])=false:=by rw[bs_toList,ht];rfl
   have t3:(bs n.text).toList.isEmpty=true:=by rw[bs_toList,ht];rfl
   have HC:=Lh (put_new w0 w1 L [[60,63],n.name] (by have:=HL.out;simp only[List.flatten_cons,List.flatten_nil,List.append_nil,List.length_append,List.length_cons,List.length_nil];omega) (by simp) HS1.out.b)
   have HT:=Lh (And.intro hT hTl)
   clear hk hk2 hk3 hk4 HEL hlen hT hTl ht
   go_wp2_with fail
   refine HC.out.mono ?_
   rintro e w2 ⟨⟨u,rfl⟩,hP,hK⟩
   have hS:=HS1.out.next hP hK
   have c2:=hS.cell HB3.out.1.lt HB3.out.2 c2
   have HC2:=Lh (put_new w0 w2 _ [[63,62]] (by have:=HL.out;have:=HT.out.2;simp only[List.flatten_cons,List.flatten_nil,List.append_nil,List.length_append,List.length_cons,List.length_nil];omega) (by simp) hS.b)
   have HS:=Lh hS
   clear hP hK HC hS c0 c1 c3 c4
   go_wp2_with fail
   refine HC2.out.mono ?_
   rintro e w3 ⟨⟨u3,rfl⟩,hP,hK⟩
   have HN:Hid (PB w0 w3 (L++TX)∧PK w0 W w3):=Lh ⟨by rw[HT.out.1];simpa using hP,(HK0.out.trans HS.out.k).trans hK⟩
   clear hP hK HC2 HS
   go_wp2_with fail
   refine bodyPost_end (results_none rfl _ _ _) rfl ?_
   exact⟨⟨_,rfl⟩,HN.out⟩
  ·
   rw[if_neg ht]at hT
   have hTl:TX.length=2+n.name.length+1+n.text.length+2:=by rw[hT];simp only[List.length_append,List.length_cons,List.length_nil]
   have t1:((bs n.text).toList != [])=true:=by rw[bs_toList,bne_iff_ne];exact ht
   have t3:(bs n.text).toList.isEmpty=false:=by rw[bs_toList];cases hh:n.text with | nil=>exact absurd hh ht | cons=>rfl
   have HC:=Lh (put_new w0 w1 L [[60,63],n.name] (by have:=HL.out;simp only[List.flatten_cons,List.flatten_nil,List.append_nil,List.length_append,List.length_cons,List.length_nil];omega) (by simp) HS1.out.b)
   have HT:=Lh (And.intro hT hTl)
   clear hk hk2 hk3 hk4 HEL hlen hT hTl ht
   go_wp2_with fail
   refine HC.out.mono ?_
   rintro e w2 ⟨⟨u,rfl⟩,hP,hK⟩
   have hS:=HS1.out.next hP hK
   have c2:=hS.cell HB3.out.1.lt HB3.out.2 c2
   have HC2:=Lh (put_new w0 w2 _ [[32],n.text] (by have:=HL.out;have:=HT.out.2;simp only[List.flatten_cons,List.flatten_nil,List.append_nil,List.length_append,List.length_cons,List.length_nil];omega) (by simp) hS.b)
   have HS:=Lh hS
   clear hP hK HC hS c0 c1 c3 c4
   go_wp2_with fail
   refine HC2.out.mono ?_
   rintro e w3 ⟨⟨u3,rfl⟩,hP,hK⟩
   have hS:=HS.out.next hP hK
   have HC3:=Lh (put_new w0 w3 _ [[63,62]] (by have:=HL.out;have:=HT.out.2;simp only[List.flatten_cons,List.flatten_nil,List.append_nil,List.length_append,List.length_cons,List.length_nil];omega) (by simp) hS.b)
   have HS3:=Lh hS
   clear hP hK HC2 HS hS c2
   go_wp2_with fail
   refine HC3.out.mono ?_
   rintro e w4 ⟨⟨u4,rfl⟩,hP,hK⟩
   have HN:Hid (PB w0 w4 (L++TX)∧PK w0 W w4):=Lh ⟨by rw[HT.out.1];simpa using hP,(HK0.out.trans HS3.out.k).trans hK⟩
   clear hP hK HC3 HS3
   go_wp2_with fail
   refine bodyPost_end (results_none rfl _ _ _) rfl ?_
   exact⟨⟨_,rfl⟩,HN.out⟩
 have q4:(n.kind==4)=false:=by rw[beq_eq_false_iff_ne];exact hk4
 have HN:Hid (PB w0 w1 (L++TX)∧PK w0 W w1):=Lh ⟨by rw[←HTX.out,txt_5 n hk hk2 hk3 hk4,List.append_nil];exact HS1.out.b,HK0.out⟩
 clear hk hk2 hk3 hk4 HEL hlen
 go_wp2_with fail
 refine bodyPost_end (results_none rfl _ _ _) rfl ?_
 exact⟨⟨_,rfl⟩,HN.out⟩
theorem cellsU8:Tryz.prog.cellsOf 5=1:=by kernel_rfl
theorem row_bytes (L:Bytes):rowB L=Lib.byteCells L:=by simp[rowB,byI,Lib.byteCells]
theorem us_none (W:World) (q:Option Addr):(Builtin.unsafeString_ #[179,3] 9 #[.pointer q,.int .i64 0]).run Tryz.prog W= .ok (.string .empty) W:=Lib.run_unsafeString_none W _ _ _ q
theorem bstr_row (B b:Nat) (l:List UInt8) (w:World) (h:Lib.IsBuilder 130 5 B b (Lib.byteCells l) w) (h0:l≠ []):
  Calls Tryz.prog 63 #[.pointer (some ⟨b,0,none⟩)] w fun e w'=>e= .returned (.string ⟨l.toArray⟩)∧Below B w w':=by
 have mixed:Tryz.prog.follows Departure.mixedOrders=true:=by kernel_rfl
 obtain⟨p,hB,v,hbk,hown,hne⟩:∃p,Lib.BuilderAt 130 5 B b p (Lib.byteCells l) w:=by
  rcases h with h | h
  ·
   exact⟨_,h⟩
  ·
   exact⟨_,h⟩
 have hl0:l.length≠0:=by simpa using h0
 rw[Lib.byteCells_length]at hown
 obtain⟨g,cap,cur,rfl,hbg,hg,hnc,hcm,hcs,htake⟩:∃g cap cur,v= .slice (some ⟨g,0,none⟩) l.length cap∧B≤g∧w.heap[g]? =some (.cells cur 5 (0,0))∧l.length≤cap∧cap≤maxLen∧cur.size=cap*1∧cur.toList.take (l.length*1)=Lib.byteCells l:=by
  rcases hown.2 with⟨_,hz⟩ | ⟨g,cap,cur,hv,r⟩
  ·
   exact absurd hz hl0
  ·
   exact⟨g,cap,cur,hv,r⟩
 have c1:w.drew.cell? ⟨b,1,none⟩=some (.slice (some ⟨g,0,none⟩) l.length cap):=by
  have:w.drew.heap[b]? =some (.cells #[p,.slice (some ⟨g,0,none⟩) l.length cap] 130 (0,0)):=hbk
  rw[Lib.cell_of_heap this];rfl
 have hSD:(Builtin.unsafeSliceData_ #[44] 179 #[.slice (some ⟨g,0,none⟩) l.length cap]).run Tryz.prog w.drew= .ok (.pointer (some ⟨g,0,none⟩)) w.drew:=
  Lib.run_unsafeSliceData_row _ _ _ _ _ _ (by omega)
 have hUS:(Builtin.unsafeString_ #[179,3] 9 #[.pointer (some ⟨g,0,none⟩),.int .i64 l.length]).run Tryz.prog w.drew= .ok (.string ⟨l.toArray⟩) (w.drew.freeze ⟨g,0,none⟩ l.length):=by
  refine Lib.run_unsafeString_row w.drew 179 3 9 5 Tryz.underlying179 cellsU8 g cur.size (by have hg':w.drew.heap[g]? =some (.cells cur 5 (0,0)):=hg;simp[World.shape?,hg']) l h0 (by omega) (by unfold maxLen at hcm;omega) ?_
  intro j x hx
  have:=hown.cells (g:=g) rfl j (.int .u8 x.toNat) (by simp[Lib.byteCells,hx])
  exact this
 clear h
 go_enter Tryz.func63,Tryz.ntmps63
 go_wp2_with fail
 go_region_o
 all_goals (go_wp2_with fail;go_ret;exact⟨rfl,Lib.below_freeze (Below.drew (Below.refl B w)) (p:=⟨g,0,none⟩) hbg _⟩)
theorem bstr_nil (B b:Nat) (p:Value) (w:World) (hbk:w.heap[b]? =some (.cells #[p,.slice none 0 0] 130 (0,0))):
  Calls Tryz.prog 63 #[.pointer (some ⟨b,0,none⟩)] w fun e w'=>e= .returned (.string ⟨#[]⟩)∧Below B w w':=by
 have mixed:Tryz.prog.follows Departure.mixedOrders=true:=by kernel_rfl
 have hUS:=us_none
 have c1:w.drew.cell? ⟨b,1,none⟩=some (.slice none 0 0):=by
  have:w.drew.heap[b]? =some (.cells #[p,.slice none 0 0] 130 (0,0)):=hbk
  rw[Lib.cell_of_heap this];rfl
 have hSD:(Builtin.unsafeSliceData_ #[44] 179 #[.slice none 0 0]).run Tryz.prog w.drew= .ok (.pointer none) w.drew:=rfl
 go_enter Tryz.func63,Tryz.ntmps63
 go_wp2_with fail
 go_region_o
 all_goals (go_wp2_with fail;go_ret;exact⟨rfl,Below.drew (Below.refl B w)⟩)
theorem bstr_noroom (B b g:Nat) (p:Value) (cur:Array Value) (w:World) (hBw:B≤w.heap.size) (hbk:w.heap[b]? =some (.cells #[p,.slice (some ⟨g,0,none⟩) 0 0] 130 (0,0))) (hg:w.heap[g]? =some (.cells cur 5 (0,0))):
  Calls Tryz.prog 63 #[.pointer (some ⟨b,0,none⟩)] w fun e w'=>e= .returned (.string ⟨#[]⟩)∧Below B w w':=by
 have mixed:Tryz.prog.follows Departure.mixedOrders=true:=by kernel_rfl
 have hUS:=us_none
 have hlt:b< w.heap.size:=by
  rcases Nat.lt_or_ge b w.heap.size with h' | h'
  ·
   exact h'
  ·
   simp[Array.getElem?_eq_none h']at hbk
 have c1:w.drew.cell? ⟨b,1,none⟩=some (.slice (some ⟨g,0,none⟩) 0 0):=by
  have:w.drew.heap[b]? =some (.cells #[p,.slice (some ⟨g,0,none⟩) 0 0] 130 (0,0)):=hbk
  rw[Lib.cell_of_heap this];rfl
 have hSD:(Builtin.unsafeSliceData_ #[44] 179 #[.slice (some ⟨g,0,none⟩) 0 0]).run Tryz.prog w.drew= .ok (.pointer (some ⟨w.drew.heap.size,0,none⟩)) (w.drew.alloc (.view ⟨g,0,none⟩ 5)):=
  Lib.run_unsafeSliceData_zero w.drew _ _ 5 Tryz.underlying179 ⟨g,0,none⟩ 0 (5,cur.size) (by have hg':w.drew.heap[g]? =some (.cells cur 5 (0,0)):=hg;simp[World.shape?,hg'])
 have c2:(w.drew.alloc (.view ⟨g,0,none⟩ 5)).cell? ⟨b,1,none⟩=some (.slice (some ⟨g,0,none⟩) 0 0):=by
  have:(w.drew.alloc (.view ⟨g,0,none⟩ 5)).heap[b]? =_:=(Lib.alloc_old w.drew _ b hlt).trans hbk
  rw[Lib.cell_of_heap this];rfl
 have c3:(w.alloc (.view ⟨g,0,none⟩ 5)).drew.cell? ⟨b,1,none⟩=some (.slice (some ⟨g,0,none⟩) 0 0):=c2
 have c0:w.cell? ⟨b,1,none⟩=some (.slice (some ⟨g,0,none⟩) 0 0):=c1
 go_enter Tryz.func63,Tryz.ntmps63
 go_wp2_with fail
 go_region_o
 all_goals (go_wp2_with fail;go_ret;exact⟨rfl,(Below.drew (Below.refl B w)).alloc hBw _⟩)
theorem bstr_room (B b g cap:Nat) (p:Value) (w:World) (hc0:cap≠0) (hbk:w.heap[b]? =some (.cells #[p,.slice (some ⟨g,0,none⟩) 0 cap] 130 (0,0))):
  Calls Tryz.prog 63 #[.pointer (some ⟨b,0,none⟩)] w fun e w'=>e= .returned (.string ⟨#[]⟩)∧Below B w w':=by
 have mixed:Tryz.prog.follows Departure.mixedOrders=true:=by kernel_rfl
 have hUS:=us_none
 have c1:w.drew.cell? ⟨b,1,none⟩=some (.slice (some ⟨g,0,none⟩) 0 cap):=by
  have:w.drew.heap[b]? =some (.cells #[p,.slice (some ⟨g,0,none⟩) 0 cap] 130 (0,0)):=hbk
  rw[Lib.cell_of_heap this];rfl
 have hSD:(Builtin.unsafeSliceData_ #[44] 179 #[.slice (some ⟨g,0,none⟩) 0 cap]).run Tryz.prog w.drew= .ok (.pointer (some ⟨g,0,none⟩)) w.drew:=
  Lib.run_unsafeSliceData_row _ _ _ _ _ _ hc0
 clear hc0
 go_enter Tryz.func63,Tryz.ntmps63
 go_wp2_with fail
 go_region_o
 all_goals (go_wp2_with fail;go_ret;exact⟨rfl,Below.drew (Below.refl B w)⟩)
theorem bstr_any (w0 W:World) (L:Bytes) (h:PB w0 W L):
  Calls Tryz.prog 63 #[.pointer (some ⟨w0.heap.size,0,none⟩)] W fun e w'=>e= .returned (.string (bs L))∧Ext w0 w':=by
 have hb:=h.1
 rw[row_bytes]at hb
 have hX:=h.2
 have q:Calls Tryz.prog 63 #[.pointer (some ⟨w0.heap.size,0,none⟩)] W fun e w'=>e= .returned (.string ⟨L.toArray⟩)∧Below w0.heap.size W w':=by
  cases L with
  | cons x r=>exact bstr_row _ _ (x::r) W hb (by simp)
  | nil=>
   obtain⟨p,hB,v,hbk,hown,hne⟩:∃p,Lib.BuilderAt 130 5 w0.heap.size w0.heap.size p [] W:=by
    rcases hb with h | h
    ·
     exact⟨_,h⟩
    ·
     exact⟨_,h⟩
   rcases hown.2 with⟨rfl,_⟩ | ⟨g,cap,cur,rfl,hbg,hg,_,_,_,_⟩
   ·
    exact bstr_nil _ _ p W hbk
   ·
    by_cases hc0:cap=0
    ·
     subst hc0
     exact bstr_noroom _ _ g p cur W (Below.size hX) hbk hg
    ·
     exact bstr_room _ _ g cap p W hc0 hbk
 exact q.mono fun e w' ⟨h1,h2⟩=>⟨h1,Below.trans hX h2⟩
theorem nodesX_any (l:List Node) (p:Nat→Prop) (v:Value) (w:World) (hcnt:cntL l≤1048576) (hL:(txtL l).length≤140737488355328) (hv:Rep w p v (nodesD l)):
  Calls Tryz.prog 28 #[v] w fun e w'=>e= .returned (.string (bs (txtL l)))∧Ext w w':=by
 obtain⟨bk,ck,rfl,hk1,hk2⟩:=hv.count z_node (by omega)
 have hll:=cntL_len l
 have hlen:l.length≤1048576:=by omega
 obtain⟨w1,hw1⟩:∃W,w.alloc (.cells #[.pointer none,.slice none 0 0] 130)=W:=⟨_,rfl⟩
 have hP1:PB w w1 []:=by
  rw[←hw1]
  exact⟨Lib.fresh_isBuilder 130 5 w,(Ext.refl w).alloc _⟩
 have HW:=Lh hw1
 have HP1:=Lh hP1
 clear hw1 hP1 hll
 go_enter Tryz.func28,Tryz.ntmps28
 go_upto_region 2 with fail
 rw[HW.out]
 go_wp2_with fail
 go_loopw [5,10] (fun _ t wr=>∃i:Nat,t= .int .i64 i∧i≤l.length∧Hid (PB w wr (txtL (l.take i)))) (fun _ t _=>downV l.length t)
 case atStart=>exact⟨0,rfl,Nat.zero_le _,Lh (by rw[List.take_zero,txtL];exact HP1.out)⟩
 case round=>
  obtain⟨i,rfl,hi,HI⟩:=hrel
  have hi0:(0:Int)≤(i:Int):=by omega
  by_cases hlt:i< l.length
  ·
   have hlI:(i:Int)< (l.length:Int):=by omega
   obtain⟨gk,ok,za,zk,rfl,lgk,_,d0,d1,d2,d3,d4,hza,hzk⟩:=node_at hv i hlt
   have hX:=HI.out.2
   have e0:=hX.keep lgk d0;have e1:=hX.keep lgk d1;have e2:=hX.keep lgk d2;have e3:=hX.keep lgk d3;have e4:=hX.keep lgk d4
   have hst:=txtL_step l i hlt
   have hle:=txtL_len l (i+1)
   have hkc:=kid_le l i hlt
   obtain⟨y,hy⟩:∃y,l[i]=y:=⟨_,rfl⟩
   rw[hy]at e0 e1 e2 hza hzk hst hkc
   obtain⟨zab,zac,rfl,_,_⟩:=hza.count z_attr (by omega)
   obtain⟨zkb,zkc,rfl,_,_⟩:=hzk.count z_node (by omega)
   obtain⟨w5,hw5⟩:∃W,wr.alloc (.cells #[.int .i64 y.kind,.string (bs y.name),.string (bs y.text),.slice zab y.attrs.length zac,.slice zkb y.kids.length zkc] 26)=W:=⟨_,rfl⟩
   obtain⟨g5,hg5⟩:∃g,wr.heap.size=g:=⟨_,rfl⟩
   have hE5:Ext wr w5:=by rw[←hw5];exact(Ext.refl wr).alloc _
   have hb5:B5 w5 g5 y (.slice zab y.attrs.length zac) (.slice zkb y.kids.length zkc):=by rw[←hw5,←hg5];exact b5_box wr y _ _
   have n0:=hb5.c0;have n1:=hb5.c1;have n2:=hb5.c2;have n3:=hb5.c3;have n4:=hb5.c4
   have HW5:=Lh (And.intro hw5 hg5)
   rw[hst,List.length_append]at hle
   have HPb:=node_any (nsz y) y w w5 (txtL (l.take i)) p _ _ (Nat.le_refl _) (by omega) (HI.out.ext hE5) hza hzk (by omega)
   rw[←hst]at HPb
   have HPc:=Lh HPb
   clear HPb hy hw5 hg5 hE5 hb5 hst hle hkc hza hzk d0 d1 d2 d3 d4 hX
   go_upto_region 5 with fail
   rw[HW5.out.1,HW5.out.2]
   clear e0 e1 e2 e3 e4
   go_wp2_with fail
   refine HPc.out.mono ?_
   rintro e w6 ⟨⟨u6,rfl⟩,hP6,hK6⟩
   have HN6:=Lh hP6
   clear HPc hP6 hK6 HI
   go_wp2_with fail
   go_roundw
   case rel=>exact⟨i+1,by go_num,by omega,HN6⟩
   case measure=>simp only[downV];omega
  ·
   have hlI:¬(i:Int)< (l.length:Int):=by omega
   have hS:=HI.out
   rw[List.take_of_length_le (by omega)]at hS
   obtain⟨R,hR⟩:∃R,bs (txtL l)=R:=⟨_,rfl⟩
   have HPb:=bstr_any w wr (txtL l) hS
   rw[hR]at HPb
   have HPc:=Lh HPb
   have HR:=Lh hR
   clear HPb hS HI hR
   go_wp2_with fail
   refine HPc.out.mono ?_
   rintro e w6 ⟨rfl,hX6⟩
   go_wp2_with fail
   go_ret
   exact⟨by rw[HR.out];rfl,hX6⟩
def hdS (p:Bytes):List Bytes→List Bytes
 | []=> [p]
 | h::t=>(p++h)::t
theorem hdS_hdS (p q:Bytes) (l:List Bytes):hdS p (hdS q l)=hdS (p++q) l:=by
 cases l with
 | nil=>rfl
 | cons h t=>simp[hdS]
theorem splitS_hd (c:UInt8):∀(s cur:Bytes),splitS c cur s=hdS cur (splitS c [] s)
 | [],cur=>by simp[splitS,hdS]
 | b::r,cur=>by
  unfold splitS
  split
  ·
   simp[hdS]
  ·
   rw[splitS_hd c r (cur++ [b]),splitS_hd c r ([]++ [b]),hdS_hdS];rfl
theorem splitK_hd (c b:UInt8) (h:b≠c) (r:Bytes) (k:Nat):Lib.splitK [c] 0 k (b::r)=hdS [b] (Lib.splitK [c] 0 k r):=by
 have hi:Lib.index (b::r) [c]=if Lib.index r [c]== -1 then -1 else Lib.index r [c]+1:=by
  rw[Lib.index]
  have:([c]:List UInt8).isPrefixOf (b::r)=false:=by simp[List.isPrefixOf,Ne.symm h]
  rw[this];rfl
 cases k with
 | zero=>rfl
 | succ k=>
  unfold Lib.splitK
  rw[hi]
  by_cases hm:Lib.index r [c]= -1
  ·
   simp[hm,hdS]
  ·
   have h0:=Lib.index_ge r [c]
   obtain⟨i,hi2⟩:∃i:Nat,Lib.index r [c]=i:=⟨(Lib.index r [c]).toNat,by omega⟩
   have e1:(Lib.index r [c]== -1)=false:=by rw[beq_eq_false_iff_ne];exact hm
   have e2:((i:Int)+1== -1)=false:=by rw[beq_eq_false_iff_ne];omega
   rw[hi2]at e1⊢
   rw[e1]
   simp only[Bool.false_eq_true,if_false,e2]
   rw[show((i:Int)+1).toNat=i+1 by omega,show((i:Int)).toNat=i by omega]
   simp[hdS,List.take_succ_cons,show i+1+1=(i+1)+1 from rfl]
theorem split_S (c:UInt8):∀s:Bytes,Lib.split s [c]=splitS c [] s
 | []=>by
  unfold Lib.split
  have:Lib.count [] [c]=0:=by rw[Lib.count_one];rfl
  rw[this];rfl
 | b::r=>by
  have ih:=split_S c r
  by_cases h:b=c
  ·
   subst h
   unfold Lib.split at ih⊢
   rw[Lib.count_cons_eq,Nat.add_comm]
   unfold Lib.splitK
   have hi:Lib.index (b::r) [b]=0:=by rw[Lib.index];simp[List.isPrefixOf]
   rw[hi]
   simp only[splitS,if_pos]
   rw[←ih];rfl
  ·
   unfold Lib.split at ih⊢
   rw[Lib.count_cons_ne _ _ _ h,splitK_hd c b h,ih]
   conv=>rhs;unfold splitS
   rw[if_neg h,splitS_hd c r ([]++ [b])];rfl
theorem splitB_S (c:UInt8) (s:Bytes):Lib.splitB (bs [c]) 0 (Lib.countB (bs s) (bs [c])) (bs s)=(splitS c [] s).map bs:=by
 have h:=Lib.splitB_data (bs [c]) 0 (Lib.countB (bs s) (bs [c])) (bs s)
 have e:Lib.splitK (bs [c]).data.toList 0 (Lib.countB (bs s) (bs [c])) (bs s).data.toList=splitS c [] s:=split_S c s
 rw[e]at h
 have q:∀(l:List ByteArray) (m:List Bytes),l.map (·.data.toList)=m→l=m.map bs:=by
  intro l
  induction l with
  | nil=>intro m hm;cases m with | nil=>rfl | cons=>simp at hm
  | cons a r ih=>intro m hm;cases m with
   | nil=>simp at hm
   | cons x y=>
    simp only[List.map_cons,List.cons.injEq]at hm
    rw[List.map_cons,←ih y hm.2,←hm.1];rfl
 exact q _ _ h
theorem splitS_cnt (c:UInt8) (s:Bytes):(splitS c [] s).length=Lib.countB (bs s) (bs [c])+1:=by
 have h:=Lib.splitB_all (bs [c]) (by rw[bs_size];simp) 0 (Lib.countB (bs s) (bs [c])) (bs s) rfl
 rw[splitB_S,List.length_map]at h;exact h
def MaxV (w:World):Prop:=∃m,w.cell? ⟨3,0,none⟩=some (.int .i64 m)
theorem MaxV.ext {w w':World} (h:MaxV w) (hE:Ext w w'):MaxV w':=by
 obtain⟨m,hm⟩:=h
 exact⟨m,hE.keep (World.block_lt_of_cell? w _ hm) hm⟩
theorem splitS_mem (c:UInt8):∀(s cur x:Bytes),x∈splitS c cur s→x.length≤cur.length+s.length
 | [],cur,x,h=>by simp[splitS]at h;rw[h];simp
 | b::r,cur,x,h=>by
  unfold splitS at h
  split at h
  ·
   rcases List.mem_cons.1 h with rfl | h
   ·
    simp
   ·
    have:=splitS_mem c r [] x h;simp at this;rw[List.length_cons];omega
  ·
   have:=splitS_mem c r _ x h;rw[List.length_append]at this;simp at this;rw[List.length_cons];omega
theorem splitS_lenle (c:UInt8):∀(s cur:Bytes),(splitS c cur s).length≤s.length+1
 | [],cur=>by simp[splitS]
 | b::r,cur=>by
  unfold splitS
  split
  ·
   have:=splitS_lenle c r [];rw[List.length_cons,List.length_cons];omega
  ·
   have:=splitS_lenle c r (cur++ [b]);rw[List.length_cons];omega
theorem rep_new_strs (l:List Bytes) (w:World) (p:Nat→Prop) (hp:p w.heap.size) (hb:∀x∈l,x.length≤9223372036854775807) (hl:l.length≤9223372036854775807):
  Rep (w.alloc (.cells ((l.map bs).map Value.string).toArray 9)) p (.slice (some ⟨w.heap.size,0,none⟩) l.length l.length) (strsD l):=by
 have hfl:l.flatMap (fun x=> [strD x])=l.map strD:=by induction l with
  | nil=>rfl
  | cons a r ih=>rw[List.flatMap_cons,ih (fun x hx=>hb x (List.mem_cons_of_mem _ hx)) (by rw[List.length_cons]at hl;omega)];rfl
 unfold strsD
 rw[hfl]
 refine .row w.heap.size 0 l.length l.length 1 ((l.map bs).map Value.string) (l.map strD) (fun _=>hp) (by simp) (by simp) (Nat.le_refl _) hl (fun k u hk=> ?_) (fun k u e hk he=> ?_)
 ·
  have:=blk_cells (w:=w.alloc (.cells ((l.map bs).map Value.string).toArray 9)) (g:=w.heap.size) (xs:=(l.map bs).map Value.string) (e:=9) Array.getElem?_push_size k hk
  rw[Nat.zero_add];exact this
 ·
  rw[List.getElem?_map]at he
  rw[List.map_map,List.getElem?_map]at hk
  cases hx:l[k]? with
  | none=>rw[hx]at hk;cases hk
  | some x=>
   rw[hx]at hk he
   cases hk;cases he
   exact Rep.string _ _ _ (by rw[bs_size];exact hb x (List.mem_of_getElem? hx))
theorem splitX_any (s:Bytes) (w:World) (hs:s.length≤1048576) (hm:MaxV w):
  Calls Tryz.prog 106 #[.string (bs s),.string (bs [47])] w fun e w'=>Ret (fun b=>w.heap.size≤b) (strsD (splitS 47 [] s)) e w'∧Ext w w':=by
 obtain⟨m,hm⟩:=hm
 have h:=Any.strings_Split {Tryz.laysM146 with} infoStr (bs s) (bs [47]) m w (by rw[bs_size];omega) hm (by rw[bs_size];simp)
 rw[splitB_S]at h
 have hc:=splitS_cnt 47 s
 rw[←hc]at h
 refine h.mono fun e w' ⟨he,hw⟩=> ?_
 subst hw
 refine⟨⟨_,he,?_⟩,(Ext.refl w).alloc _⟩
 exact rep_new_strs _ w _ (Nat.le_refl _) (fun x hx=>by have:=splitS_mem 47 s [] x hx;simp at this;omega) (by have:=splitS_lenle 47 s [];omega)
end Go.Proofs.YtebhipeeogoagaaGreatDoor
