/-
 xout:the printer's writing. Helper lemmas;no statement of the seat is proved here.
-/
import Derived.Test.YtcfibjiikhnfhaaGreatDoorU5
import Derived.Lib.Builder
import Derived.Lib.AppendStr
import Derived.Deep.DeepCutAuto
namespace Go.Proofs.YtcfibjiikhnfhaaGreatDoor
open Go.RowKit
set_option maxHeartbeats 32000000
set_option maxRecDepth 100000
set_option linter.unusedVariables false
set_option linter.unusedSimpArgs false
theorem infoU8:(Tryz.prog.info? 5).map (fun i=>(i.zero,i.size,i.bytes))=some (some (.int .u8 0),1,1):=by kernel_rfl
def rowB (L:Bytes):List Value:=(byI L).map fun y=>Value.int .u8 y
theorem rowB_len (L:Bytes):(rowB L).length=L.length:=by simp[rowB,byI]
theorem rowB_app (a b:Bytes):rowB (a++b)=rowB a++rowB b:=by simp[rowB,byI]
theorem own_slice {w:World} {base z n:Nat} {e:TypeId} {v:Value} {us:List Value} (h:w.ownsRow base e z v n us):∃a c,v= .slice a n c:=by
 obtain⟨_,h | ⟨g,cap,cs,h,_⟩⟩:=h
 ·
  obtain⟨rfl,rfl⟩:=h
  exact⟨_,_,rfl⟩
 ·
  exact⟨_,_,h⟩
theorem run_app_str (w:World) (base:Nat) (ty:TypeId) (i:TypeInfo) (hi:Tryz.prog.info? 5=some i) (hz:i.zero=some (.int .u8 0)) (hsize:i.size=1) (hby:i.bytes=1)
  (v:Value) (n:Nat) (xs:List Value) (hown:w.ownsRow base 5 1 v n xs) (s:ByteArray) (hs:n+s.size≤140737488355328) (hbase:base≤w.heap.size):
  ∃v' w',(Builtin.append_ #[43,9] ty #[v,.string s]).run Tryz.prog w= .ok v' w'∧w'.ownsRow base 5 1 v' (n+s.size) (xs++Lib.strCells s)∧w.grownBy w' v.ownBlock∧(v'.ownBlock=v.ownBlock∨v'.ownBlock=some w.heap.size):=by
 obtain⟨v',w',hr,h2,h3,h4⟩:=Lib.run_append_own_string (P:=Tryz.prog) w base 43 9 ty 5 i Tryz.underlying43 Tryz.underlying9 hi hz hsize hby v n xs hown s (by unfold maxLen;omega) hs hbase
 refine⟨v',w',hr,h2,h3,?_⟩
 rcases hown.2 with⟨rfl,rfl⟩ | ⟨g,cap,cur,rfl,hbg,hg,hnc,hcm,hcs,htake⟩
 ·
  by_cases hm:s.size=0
  ·
   left;rw[h4.2 ⟨rfl,hm⟩]
  ·
   right
   have h5:=run_append_nil_string (P:=Tryz.prog) w 43 9 ty 5 i (.int .u8 0) Tryz.underlying43 Tryz.underlying9 hi hz s (by omega) (by omega) (by rw[hby];omega)
   rw[hr]at h5
   injection h5 with h5 _
   rw[h5];rfl
 ·
  have hxl:xs.length=n:=by simpa using hown.1
  have hcs':cur.size=cap:=by simpa using hcs
  by_cases hroom:n+s.size≤cap
  ·
   left
   have h5:=Lib.run_append_room_string (P:=Tryz.prog) w 43 9 ty 5 i Tryz.underlying43 Tryz.underlying9 hi hsize g n cap cur hg s hroom (by omega)
   rw[hr]at h5
   injection h5 with h5 _
   rw[h5];rfl
  ·
   right
   have holds:∀j u,xs[j]? =some u→w.cell? ((⟨g,0,none⟩:Addr).add j)=some u:=hown.cells (g:=g) rfl
   have h5:=Lib.run_append_grow_string (P:=Tryz.prog) w 43 9 ty 5 i (.int .u8 0) Tryz.underlying43 Tryz.underlying9 hi hz ⟨g,0,none⟩ n cap xs (by rw[hsize];simpa using hxl) holds s (by omega) (by omega) (by rw[hby];exact growslice_fits (by omega) (by omega))
   rw[hr]at h5
   injection h5 with h5 _
   rw[h5];rfl
theorem wpList_app_str {ops:Array Oper} {rest:List Oper} {o:Oper} {a:Act} {w:World} {Q:Exit→Act→World→Prop} (hgd:o.guard=none) (sl x:Operand)
  (ho:o.op= .call {callee:= .builtin .append,args:= #[sl,x],argTypes:= #[43,9]})
  (base:Nat) (v:Value) (n:Nat) (xs:List Value) (hs:a.eval sl=v) (hown:w.ownsRow base 5 1 v n xs) (s:ByteArray) (hx:a.eval x= .string s) (hl:n+s.size≤140737488355328) (hbase:base≤w.heap.size)
  (h:∀v' w',w'.ownsRow base 5 1 v' (n+s.size) (xs++Lib.strCells s)→w.grownBy w' v.ownBlock→(v'.ownBlock=v.ownBlock∨v'.ownBlock=some w.heap.size)→wpList Tryz.prog ops Q rest (a.put o.dst v') w'):wpList Tryz.prog ops Q (o::rest) a w:=by
 obtain⟨i0,hi0',hz0,hz1,hz2⟩:=info_parts infoU8
 refine wpList_plain hgd fun K hK=> ?_
 obtain⟨v',w',hr,h2,h3,h4⟩:=run_app_str w base o.type i0 hi0' hz0 hz1 hz2 v n xs hown s hl hbase
 unfold Oper.wp execOp
 simp only[ho,resolve,invoke,builtin,Sem.run_bind,Sem.run_pure,Result.andThen_ok,List.map_toArray,List.map_cons,List.map_nil,hs,hx,hr]
 exact hK _ _ (h v' w' h2 h3 h4)
theorem strCells_bs (s:Bytes):Lib.strCells (bs s)=rowB s:=by simp[Lib.strCells,bs,rowB,byI]
def PB (w0 W:World) (L:Bytes):Prop:=Lib.IsBuilder 133 5 w0.heap.size w0.heap.size (rowB L) W∧Ext w0 W
def Fz (w0 W:World) (b:Nat):Prop:=b≠w0.heap.size∧∀dv,W.cell? ⟨w0.heap.size,1,none⟩=some dv→some b≠dv.ownBlock
structure PK (w0 W W':World):Prop where
 size:W.heap.size≤W'.heap.size
 keep:∀b,b< W.heap.size→Fz w0 W b→W'.heap[b]? =W.heap[b]? ∧Fz w0 W' b
theorem PK.refl (w0 W:World):PK w0 W W:=⟨Nat.le_refl _,fun _ _ h=>⟨rfl,h⟩⟩
theorem PK.trans {w0 a b c:World} (h:PK w0 a b) (k:PK w0 b c):PK w0 a c:=
 ⟨Nat.le_trans h.size k.size,fun x hx hf=>by
  obtain⟨h1,h2⟩:=h.keep x hx hf
  obtain⟨k1,k2⟩:=k.keep x (Nat.lt_of_lt_of_le hx h.size) h2
  exact⟨k1.trans h1,k2⟩⟩
theorem PK.ext {w0 W W':World} (hl:w0.heap.size< W.heap.size) (h:Ext W W'):PK w0 W W':=
 ⟨h.size,fun b hb hf=>⟨h.block b hb,hf.1,fun dv hd=>hf.2 dv (by rw[←hd];exact(World.cell?_of_block (h.block _ hl)).symm)⟩⟩
theorem PB.ext {w0 W W':World} {L:Bytes} (h:PB w0 W L) (hE:Ext W W'):PB w0 W' L:=by
 obtain⟨h1,h2⟩:=h
 have q:∀p,Lib.BuilderAt 133 5 w0.heap.size w0.heap.size p (rowB L) W→Lib.BuilderAt 133 5 w0.heap.size w0.heap.size p (rowB L) W':=fun p hb=>by
  have hl:=hb.lt
  obtain⟨hB,v,hbk,hown,hne⟩:=hb
  exact⟨hB,v,(hE.block _ hl).trans hbk,rows_ext hown hE,hne⟩
 exact⟨h1.imp (q _) (q _),h2.trans hE⟩
theorem PB.lt {w0 W:World} {L:Bytes} (h:PB w0 W L):w0.heap.size< W.heap.size:=by
 rcases h.1 with h | h<;> exact h.lt
theorem sizeBld:(Tryz.prog.info? 131).map (fun i=>i.size)=some 2:=by kernel_rfl
theorem liesPr:liesAt Tryz.prog Tryz.prog.depth 133 (2 / Tryz.prog.cellsOf 133) 0 131 1=true:=by kernel_rfl
theorem copy_used (b:Nat) (w:World) (h0:w.cell? ⟨b,0,none⟩=some (.pointer (some ⟨b,0,none⟩))):
  Calls Tryz.prog 123 #[.pointer (some ⟨b,0,none⟩)] w fun e w'=>e= .returned (.tuple #[])∧w'=w:=by
 obtain⟨j,hj,_⟩:=Option.map_eq_some_iff.1 sizeBld
 go_enter Tryz.func123,Tryz.ntmps123
 go_wp2_with fail
 rw[Lib.run_neq_ptr_same _ _ Tryz.underlying129 hj]
 go_wp2_with fail
 refine bodyPost_end (results_none rfl _ _ _) rfl ?_
 exact⟨rfl,rfl⟩
theorem copy_fresh (b:Nat) (w:World) (h0:w.cell? ⟨b,0,none⟩=some (.pointer none)) (hsh:w.shape? b=some (133,2)) (hfz:w.frozen? ⟨b,0,none⟩=false):
  Calls Tryz.prog 123 #[.pointer (some ⟨b,0,none⟩)] w fun e w'=>e= .returned (.tuple #[])∧w'=w.setCell ⟨b,0,none⟩ (.pointer (some ⟨b,0,none⟩)):=by
 obtain⟨j,hj,hjs⟩:=Option.map_eq_some_iff.1 sizeBld
 go_enter Tryz.func123,Tryz.ntmps123
 go_wp2_with fail
 rw[Lib.run_to_unsafe _ ⟨b,0,none⟩ Tryz.underlying129 Tryz.underlying101 hj (by rw[hjs];decide) hsh (Nat.zero_lt_succ 1)]
 simp only[Result.andThen]
 rw[Oper.upon_value]
 go_wp2_with fail
 rw[run_callFunc_extern Tryz.func167 (by kernel_rfl) (by kernel_rfl) (by kernel_rfl) (e:=Extern.AbiNoEscape.same) (by kernel_rfl)]
 rw[Lib.run_noEscape]
 simp only[Result.andThen]
 rw[Oper.upon_value]
 go_wp2_with fail
 rw[Lib.run_from_unsafe _ ⟨b,0,none⟩ Tryz.underlying101 Tryz.underlying129 hj hsh liesPr]
 simp only[Result.andThen]
 rw[Oper.upon_value]
 go_wp2_with fail
 refine bodyPost_end (results_none rfl _ _ _) rfl ?_
 exact⟨rfl,rfl⟩
theorem PK.set0 (w0 W:World) (v:Value):PK w0 W (W.setCell ⟨w0.heap.size,0,none⟩ v):=by
 refine⟨by simp,fun x hx hf=>⟨Below.heap_setCell _ _ _ _ hf.1,hf.1,fun dv hd=>hf.2 dv ?_⟩⟩
 rw[←hd];simp[go_sem]
theorem copyP (w0 W:World) (L:Bytes) (h:PB w0 W L):
  Calls Tryz.prog 123 #[.pointer (some ⟨w0.heap.size,0,none⟩)] W fun e w'=>e= .returned (.tuple #[])∧(Lib.BuilderAt 133 5 w0.heap.size w0.heap.size (.pointer (some ⟨w0.heap.size,0,none⟩)) (rowB L) w'∧Ext w0 w')∧PK w0 W w':=by
 rcases h.1 with k | k
 ·
  refine(copy_fresh _ W k.cell0 k.shape k.frozen0).mono ?_
  rintro e w' ⟨rfl,rfl⟩
  exact⟨rfl,⟨k.used _,h.2.set (p:=⟨w0.heap.size,0,none⟩) (Nat.le_refl _) _⟩,PK.set0 w0 W _⟩
 ·
  refine(copy_used _ W k.cell0).mono ?_
  rintro e w' ⟨rfl,rfl⟩
  exact⟨rfl,⟨k,h.2⟩,PK.refl _ _⟩
theorem wstr_any (w0 W:World) (L s:Bytes) (hL:L.length+s.length≤140737488355328) (h:PB w0 W L):
  Calls Tryz.prog 81 #[.pointer (some ⟨w0.heap.size,0,none⟩),.string (bs s)] W fun e w'=>(∃u,e= .returned u)∧PB w0 w' (L++s)∧PK w0 W w':=by
 have HC:=Lh (copyP w0 W L h)
 go_enter Tryz.func81,Tryz.ntmps81
 go_wp2_with fail
 refine HC.out.mono ?_
 rintro e w1 ⟨rfl,⟨h1,hX1⟩,hK1⟩
 have hlt:=h1.lt
 obtain⟨hB,v,hbk,hown,hne⟩:=h1
 have c0:w1.cell? ⟨w0.heap.size,0,none⟩=some (.pointer (some ⟨w0.heap.size,0,none⟩)):=by rw[Lib.cell_of_heap hbk];rfl
 have c1:w1.cell? ⟨w0.heap.size,1,none⟩=some v:=by rw[Lib.cell_of_heap hbk];rfl
 have HH:=Lh (And.intro hX1 (And.intro hK1 (And.intro hbk (And.intro hown hne))))
 have hbs:(bs s).size=s.length:=bs_size s
 clear hX1 hK1 hbk hown hne HC h
 go_wp2_with (at_builtin;refine wpList_app_str rfl (.tmp 12) (.tmp 13) rfl w0.heap.size v (rowB L).length (rowB L) rfl HH.out.2.2.2.1 (bs s) rfl (by rw[rowB_len,hbs];omega) (Nat.le_of_lt hlt) ?_;intro v' w2 hown' hgrow hat;have hb2:w2.heap[w0.heap.size]? =some (.cells #[.pointer (some ⟨w0.heap.size,0,none⟩),v] 133 (0,0)):=(by rw[hgrow.block _ hlt (fun e=>HH.out.2.2.2.2 e.symm)];exact HH.out.2.2.1);have d0:w2.cell? ⟨w0.heap.size,0,none⟩=some (.pointer (some ⟨w0.heap.size,0,none⟩)):=(by rw[Lib.cell_of_heap hb2];rfl);have d1:w2.cell? ⟨w0.heap.size,1,none⟩=some v:=(by rw[Lib.cell_of_heap hb2];rfl);have f1:w2.frozen? ⟨w0.heap.size,1,none⟩=false:=Lib.frozen_of_heap hb2 1;obtain⟨ao,cap,rfl⟩:=own_slice hown';rw[hbs]at hown' hat;rw[strCells_bs,←rowB_app]at hown')
 go_ret2
 have hown2:w2.ownsRow w0.heap.size 5 1 (.slice ao ((rowB L).length+s.length) cap) (rowB (L++s)).length (rowB (L++s)):=by
  rw[show(rowB (L++s)).length=(rowB L).length+s.length by rw[rowB_len,rowB_len,List.length_append]];exact hown'
 have hX2:Ext w0 w2:=Below.grown HH.out.1 hgrow (Below.size HH.out.1) fun k hk=>(HH.out.2.2.2.1.lt k hk).1
 refine⟨⟨_,rfl⟩,⟨.inr (Lib.BuilderAt.put (Nat.le_refl _) hb2 hown2 (by decide)),?_⟩,HH.out.2.1.trans ⟨?_,fun x hx hf=>⟨?_,hf.1,fun d hd=> ?_⟩⟩⟩
 ·
  exact hX2.set (p:=⟨w0.heap.size,1,none⟩) (Nat.le_refl _) _
 ·
  simp;exact hgrow.size
 ·
  rw[Below.heap_setCell _ _ _ _ hf.1];exact hgrow.block x hx (hf.2 v c1)
 ·
  rw[World.cell?_setCell_same' _ _ _ (by rw[d1];rfl)]at hd
  obtain rfl:=Option.some.inj hd
  rcases hat with e | e
  ·
   rw[e];exact hf.2 v c1
  ·
   rw[e];intro e2;have:=Option.some.inj e2;omega
theorem PK.cell {w0 W W':World} (h:PK w0 W W') {b o:Nat} (hb:b< W.heap.size) (hf:Fz w0 W b) {v:Value} (hc:W.cell? ⟨b,o,none⟩=some v):W'.cell? ⟨b,o,none⟩=some v:=(World.cell?_of_block (h.keep b hb hf).1).trans hc
theorem put_any (w0 W:World) (L:Bytes) (ss:List Bytes) (b off cap:Nat) (hL:L.length+ss.flatten.length≤140737488355328) (hn:ss.length≤3) (h:PB w0 W L) (hb:b< W.heap.size) (hf:Fz w0 W b) (hc:∀j (hj:j< ss.length),W.cell? ⟨b,off+j,none⟩=some (.string (bs ss[j]))):
  Calls Tryz.prog 111 #[.pointer (some ⟨w0.heap.size,0,none⟩),.slice (some ⟨b,off,none⟩) ss.length cap] W fun e w'=>(∃u,e= .returned u)∧PB w0 w' (L++ss.flatten)∧PK w0 W w':=by
 have HB:=Lh (And.intro h (And.intro hb hf))
 have HL:=Lh hL
 clear h hb hf hL
 go_enter Tryz.func111,Tryz.ntmps111
 go_wp2_with fail
 go_loopw [8] (fun t wr=>∃i:Nat,t= .int .i64 i∧i≤ss.length∧Hid (PB w0 wr (L++(ss.take i).flatten)∧PK w0 W wr)) (fun t _=>downV ss.length t)
 case atStart=>exact⟨0,rfl,Nat.zero_le _,Lh ⟨by simpa using HB.out.1,PK.refl _ _⟩⟩
 case round=>
  obtain⟨i,rfl,hi,HI⟩:=hrel
  by_cases hlt:i< ss.length
  ·
   have hlI:(i:Int)< (ss.length:Int):=by omega
   have hi0:(0:Int)≤(i:Int):=by omega
   have hcell:=HI.out.2.cell HB.out.2.1 HB.out.2.2 (hc i hlt)
   have htk:(ss.take (i+1)).flatten=(ss.take i).flatten++ss[i]:=by rw[←List.take_append_getElem hlt,List.flatten_append];simp
   have hfl:(ss.take (i+1)).flatten.length≤ss.flatten.length:=by
    conv=>rhs;rw[←List.take_append_drop (i+1) ss,List.flatten_append,List.length_append]
    omega
   have HW:=Lh (wstr_any w0 wr (L++(ss.take i).flatten) ss[i] (by rw[htk,List.length_append]at hfl;rw[List.length_append];have:=HL.out;omega) HI.out.1)
   have HT:=Lh htk
   obtain⟨x,hx⟩:∃x,ss[i]=x:=⟨_,rfl⟩
   rw[hx]at hcell HW HT
   clear htk hfl hx
   go_wp2_with fail
   refine HW.out.mono ?_
   rintro e w2 ⟨⟨u,rfl⟩,hP2,hK2⟩
   have HN:Hid (PB w0 w2 (L++(ss.take (i+1)).flatten)∧PK w0 W w2):=Lh ⟨by rw[HT.out,←List.append_assoc];exact hP2,HI.out.2.trans hK2⟩
   clear HW HT HI hP2 hK2
   go_wp2_with fail
   go_roundw
   case rel=>exact⟨i+1,by go_num,by omega,HN⟩
   case measure=>simp only[downV];omega
  ·
   have hlI:¬(i:Int)< (ss.length:Int):=by omega
   have HN:Hid (PB w0 wr (L++ss.flatten)∧PK w0 W wr):=Lh (by have:=HI.out;rwa [List.take_of_length_le (by omega)]at this)
   clear HI
   go_wp2_with fail
   refine bodyPost_end (results_none rfl _ _ _) rfl ?_
   exact⟨⟨_,rfl⟩,HN.out⟩
theorem byte_str (c:UInt8) (W:World):(convert 43 9 (.slice (some ⟨W.heap.size,0,none⟩) 1 1)).run Tryz.prog (W.alloc (.cells #[.int .u8 (c.toNat:Int)] 5))= .ok (.string (bs [c])) (W.alloc (.cells #[.int .u8 (c.toNat:Int)] 5)):=by
 rw[run_convert_bytes_string _ _ _ _ _ _ _ Tryz.underlying43 Tryz.underlying5 Tryz.underlying9]
 rw[run_bytesToString _ _ _ _ [(c.toNat:Int)] (by go_simp)]
 congr 2
 simp[bs]
 rfl
theorem escaped_any (c:UInt8) (v:Bool) (W:World):
  Calls Tryz.prog 158 #[.int .u8 (c.toNat:Int),.bool v] W fun e w'=>e= .returned (.string (bs (escC v c)))∧Ext W w':=by
 have hcv:=byte_str c W
 obtain⟨R,hR⟩:∃R,bs (escC v c)=R:=⟨_,rfl⟩
 rw[hR]
 go_enter Tryz.func158,Tryz.ntmps158
 by_cases h38:c.toNat=38
 ·
  have q38:((c.toNat:Int)==38)=true:=by rw[h38];rfl
  have e:escC v c= [38,97,109,112,59]:=by unfold escC;simp[h38]
  rw[e]at hR
  clear e h38
  have HR:=Lh (show bs [38,97,109,112,59]=R from hR)
  clear hR
  go_wp2_with fail
  go_ret
  exact⟨by rw[←HR.out];rfl,Ext.refl _⟩
 have q38:((c.toNat:Int)==38)=false:=by rw[beq_eq_false_iff_ne];omega
 by_cases h60:c.toNat=60
 ·
  have q60:((c.toNat:Int)==60)=true:=by rw[h60];rfl
  have e:escC v c= [38,108,116,59]:=by unfold escC;simp[h60]
  rw[e]at hR
  clear e h60
  have HR:=Lh (show bs [38,108,116,59]=R from hR)
  clear hR
  go_wp2_with fail
  go_ret
  exact⟨by rw[←HR.out];rfl,Ext.refl _⟩
 have q60:((c.toNat:Int)==60)=false:=by rw[beq_eq_false_iff_ne];omega
 by_cases h13:c.toNat=13
 ·
  have q13:((c.toNat:Int)==13)=true:=by rw[h13];rfl
  have e:escC v c= [38,35,49,51,59]:=by unfold escC;simp[h13]
  rw[e]at hR
  clear e h13
  have HR:=Lh (show bs [38,35,49,51,59]=R from hR)
  clear hR
  go_wp2_with fail
  go_ret
  exact⟨by rw[←HR.out];rfl,Ext.refl _⟩
 have q13:((c.toNat:Int)==13)=false:=by rw[beq_eq_false_iff_ne];omega
 by_cases h62:c.toNat=62
 ·
  have q62:((c.toNat:Int)==62)=true:=by rw[h62];rfl
  cases v with
  | false=>
   have e:escC false c= [38,103,116,59]:=by unfold escC;simp[h62]
   rw[e]at hR
   clear e h62
   have HR:=Lh (show bs [38,103,116,59]=R from hR)
   clear hR
   go_wp2_with fail
   go_ret
   exact⟨by rw[←HR.out];rfl,Ext.refl _⟩
  | true=>
   have e:escC true c= [c]:=by unfold escC;simp[h62]
   rw[e]at hR
   have q34:((c.toNat:Int)==34)=false:=by rw[beq_eq_false_iff_ne];omega
   have q9:((c.toNat:Int)==9)=false:=by rw[beq_eq_false_iff_ne];omega
   have q10:((c.toNat:Int)==10)=false:=by rw[beq_eq_false_iff_ne];omega
   clear h62 e
   have HR:=Lh (show bs [c]=R from hR)
   clear hR
   go_wp2_with fail
   go_ret
   exact⟨by rw[←HR.out];rfl,(Ext.refl _).alloc _⟩
 have q62:((c.toNat:Int)==62)=false:=by rw[beq_eq_false_iff_ne];omega
 by_cases h34:c.toNat=34
 ·
  have q34:((c.toNat:Int)==34)=true:=by rw[h34];rfl
  cases v with
  | true=>
   have e:escC true c= [38,113,117,111,116,59]:=by unfold escC;simp[h34]
   rw[e]at hR
   clear e h34
   have HR:=Lh (show bs [38,113,117,111,116,59]=R from hR)
   clear hR
   go_wp2_with fail
   go_ret
   exact⟨by rw[←HR.out];rfl,Ext.refl _⟩
  | false=>
   have e:escC false c= [c]:=by unfold escC;simp[h34]
   rw[e]at hR
   have q9:((c.toNat:Int)==9)=false:=by rw[beq_eq_false_iff_ne];omega
   have q10:((c.toNat:Int)==10)=false:=by rw[beq_eq_false_iff_ne];omega
   clear h34 e
   have HR:=Lh (show bs [c]=R from hR)
   clear hR
   go_wp2_with fail
   go_ret
   exact⟨by rw[←HR.out];rfl,(Ext.refl _).alloc _⟩
 have q34:((c.toNat:Int)==34)=false:=by rw[beq_eq_false_iff_ne];omega
 by_cases h9:c.toNat=9
 ·
  have q9:((c.toNat:Int)==9)=true:=by rw[h9];rfl
  cases v with
  | true=>
   have e:escC true c= [38,35,57,59]:=by unfold escC;simp[h9]
   rw[e]at hR
   clear e h9
   have HR:=Lh (show bs [38,35,57,59]=R from hR)
   clear hR
   go_wp2_with fail
   go_ret
   exact⟨by rw[←HR.out];rfl,Ext.refl _⟩
  | false=>
   have e:escC false c= [c]:=by unfold escC;simp[h9]
   rw[e]at hR
   have q10:((c.toNat:Int)==10)=false:=by rw[beq_eq_false_iff_ne];omega
   clear h9 e
   have HR:=Lh (show bs [c]=R from hR)
   clear hR
   go_wp2_with fail
   go_ret
   exact⟨by rw[←HR.out];rfl,(Ext.refl _).alloc _⟩
 have q9:((c.toNat:Int)==9)=false:=by rw[beq_eq_false_iff_ne];omega
 by_cases h10:c.toNat=10
 ·
  have q10:((c.toNat:Int)==10)=true:=by rw[h10];rfl
  cases v with
  | true=>
   have e:escC true c= [38,35,49,48,59]:=by unfold escC;simp[h10]
   rw[e]at hR
   clear e h10
   have HR:=Lh (show bs [38,35,49,48,59]=R from hR)
   clear hR
   go_wp2_with fail
   go_ret
   exact⟨by rw[←HR.out];rfl,Ext.refl _⟩
  | false=>
   have e:escC false c= [c]:=by unfold escC;simp[h10]
   rw[e]at hR
   clear h10 e
   have HR:=Lh (show bs [c]=R from hR)
   clear hR
   go_wp2_with fail
   go_ret
   exact⟨by rw[←HR.out];rfl,(Ext.refl _).alloc _⟩
 have q10:((c.toNat:Int)==10)=false:=by rw[beq_eq_false_iff_ne];omega
 have e:escC v c= [c]:=by unfold escC;simp[h38,h60,h13,h62,h34,h9,h10]
 rw[e]at hR
 have HR:=Lh (show bs [c]=R from hR)
 clear hR
 go_wp2_with fail
 go_ret
 exact⟨by rw[←HR.out];rfl,(Ext.refl _).alloc _⟩
theorem escC_len (v:Bool) (c:UInt8):(escC v c).length≤6:=by
 unfold escC
 repeat' split
 all_goals simp
theorem escS_len (v:Bool):∀l:Bytes,(escS v l).length≤6*l.length
 | []=>by simp[escS]
 | c::r=>by
  have h1:=escC_len v c
  have h2:=escS_len v r
  unfold escS at*
  rw[List.flatMap_cons,List.length_append,List.length_cons];omega
theorem escS_step (v:Bool) (l:Bytes) (i:Nat) (h:i< l.length):escS v (l.take (i+1))=escS v (l.take i)++escC v l[i]:=by
 unfold escS
 rw[List.take_add_one,List.getElem?_eq_getElem h,List.flatMap_append];simp
theorem escS_take (v:Bool) (l:Bytes) (k:Nat):(escS v (l.take k)).length≤(escS v l).length:=by
 conv=>rhs;rw[←List.take_append_drop k l]
 unfold escS
 rw[List.flatMap_append,List.length_append];omega
theorem escS_ge (v:Bool):∀l:Bytes,l.length≤(escS v l).length
 | []=>Nat.zero_le _
 | c::r=>by
  have h1:1≤(escC v c).length:=by unfold escC;(repeat' split)<;> simp
  have h2:=escS_ge v r
  unfold escS at*
  rw[List.flatMap_cons,List.length_append,List.length_cons];omega
theorem PB.fresh {w0 W:World} {L:Bytes} (h:PB w0 W L) (o:Obj):Fz w0 (W.alloc o) W.heap.size:=by
 have hl:=h.lt
 refine⟨by omega,fun dv hd e=> ?_⟩
 rw[World.cell?_of_block (Below.heap_alloc _ _ _ hl)]at hd
 rcases h.1 with k | k
 all_goals
  obtain⟨_,v,hb,hown,_⟩:=k
  rw[Lib.cell_of_heap hb]at hd
  obtain rfl:v=dv:=by simpa using hd
  have:=(hown.lt _ e.symm).2
  omega
theorem put_new (w0 W:World) (L:Bytes) (ss:List Bytes) (hL:L.length+ss.flatten.length≤140737488355328) (hn:ss.length≤3) (h:PB w0 W L):
  Calls Tryz.prog 111 #[.pointer (some ⟨w0.heap.size,0,none⟩),.slice (some ⟨W.heap.size,0,none⟩) ss.length ss.length] (W.alloc (.cells (ss.map fun s=>Value.string (bs s)).toArray 9)) fun e w'=>(∃u,e= .returned u)∧PB w0 w' (L++ss.flatten)∧PK w0 W w':=by
 have hE:Ext W (W.alloc (.cells (ss.map fun s=>Value.string (bs s)).toArray 9)):=(Ext.refl W).alloc _
 refine(put_any w0 _ L ss W.heap.size 0 ss.length hL hn (h.ext hE) (by simp) (h.fresh _) (fun j hj=> ?_)).mono fun e w' ⟨h1,h2,h3⟩=>⟨h1,h2,(PK.ext h.lt hE).trans h3⟩
 rw[Nat.zero_add]
 simp[go_sem,hj]
theorem chars_any (w0 W:World) (L s:Bytes) (v:Bool) (hL:L.length+(escS v s).length≤140737488355328) (h:PB w0 W L):
  Calls Tryz.prog 110 #[.pointer (some ⟨w0.heap.size,0,none⟩),.string (bs s),.bool v] W fun e w'=>(∃u,e= .returned u)∧PB w0 w' (L++escS v s)∧PK w0 W w':=by
 have HB:=Lh h
 have HL:=Lh hL
 have hsz:(bs s).size≤140737488355328:=by rw[bs_size];have:=escS_ge v s;omega
 clear h hL
 go_enter Tryz.func110,Tryz.ntmps110
 go_wp2_with fail
 go_loopw [6,9] (fun _ t wr=>∃i:Nat,t= .int .i64 i∧i≤(bs s).size∧Hid (PB w0 wr (L++escS v (s.take i))∧PK w0 W wr)) (fun _ t _=>downV (bs s).size t)
 case atStart=>exact⟨0,rfl,Nat.zero_le _,Lh ⟨by simpa [escS]using HB.out,PK.refl _ _⟩⟩
 case round=>
  obtain⟨i,rfl,hi,HI⟩:=hrel
  have hi0:(0:Int)≤(i:Int):=by omega
  by_cases hlt:i< (bs s).size
  ·
   have hlI:(i:Int)< ((bs s).size:Int):=by omega
   have hl2:i< s.length:=by rw[bs_size]at hlt;exact hlt
   have hst:=escS_step v s i hl2
   have hc:(bs s)[i]'hlt=s[i]'hl2:=bs_getE s i hlt
   rw[←hc]at hst
   have hEl:=escS_take v s (i+1)
   obtain⟨c,hcc⟩:∃c,(bs s)[i]'hlt=c:=⟨_,rfl⟩
   rw[hcc]at hst
   have hv:(bs s)[i]'hlt=c:=hcc
   have hEC:=escC_len v c
   have HES:=Lh (escaped_any c v wr)
   obtain⟨T,hT⟩:∃T,escC v c=T:=⟨_,rfl⟩
   rw[hT]at HES hst hEC
   rw[hst,List.length_append]at hEl
   have HP:=Lh fun W1 (hE:Ext wr W1)=>put_new w0 W1 (L++escS v (s.take i)) [T] (by have:=HL.out;simp only[List.flatten_cons,List.flatten_nil,List.append_nil,List.length_append];omega) (by simp) (HI.out.1.ext hE)
   have HST:=Lh hst
   have HLW:=Lh HI.out.1.lt
   have HLT:=Lh hlt
   clear hst hc hcc hEC hEl hT hl2
   go_wp2_with fail
   refine HES.out.mono ?_
   rintro e w1 ⟨rfl,hB1⟩
   have HP2:=Lh (HP.out w1 hB1)
   clear HP HES
   go_wp2_with fail
   refine HP2.out.mono ?_
   rintro e w2 ⟨⟨u,rfl⟩,hP2,hK2⟩
   have HN:Hid (PB w0 w2 (L++escS v (s.take (i+1)))∧PK w0 W w2):=Lh ⟨by rw[HST.out,←List.append_assoc];simpa using hP2,(HI.out.2.trans (PK.ext HLW.out hB1)).trans hK2⟩
   clear HP2 HI hP2 hK2 hB1
   go_wp2_with fail
   go_roundw
   case rel=>exact⟨i+1,by go_num,HLT.out,HN⟩
   case measure=>have:=HLT.out;simp only[downV];omega
  ·
   have hlI:¬(i:Int)< ((bs s).size:Int):=by omega
   have HN:Hid (PB w0 wr (L++escS v s)∧PK w0 W wr):=Lh (by have:=HI.out;rwa [List.take_of_length_le (by rw[bs_size]at hlt;omega)]at this)
   clear HI
   go_wp2_with fail
   refine bodyPost_end (results_none rfl _ _ _) rfl ?_
   exact⟨⟨_,rfl⟩,HN.out⟩
structure PS (w0 w1 w:World) (L:Bytes):Prop where
 b:PB w0 w L
 k:PK w0 w1 w
theorem PS.cell {w0 w1 w:World} {L:Bytes} (h:PS w0 w1 w L) {b o:Nat} (hb:b< w1.heap.size) (hf:Fz w0 w1 b) {v:Value} (hc:w1.cell? ⟨b,o,none⟩=some v):w.cell? ⟨b,o,none⟩=some v:=h.k.cell hb hf hc
theorem PS.next {w0 w1 w w':World} {L M:Bytes} (h:PS w0 w1 w L) (hb:PB w0 w' M) (hk:PK w0 w w'):PS w0 w1 w' M:=⟨hb,h.k.trans hk⟩
def elT (n:Node):Bytes:=if n.kids.length=0 then([60]++n.name++n.attrs.flatMap attrT)++ [47,62]else([60]++n.name++n.attrs.flatMap attrT)++ [62]++txtL n.kids++ [60,47]++n.name++ [62]
theorem txtN_el (n:Node) (h:n.kind=1):txtN n=elT n:=by
 cases n with
 | mk k nm t la ks=>
  have hk:k=1:=h
  subst hk
  rw[txtN];unfold elT;rfl
theorem flatA_len (la:List Attr) (i:Nat):((la.take i).flatMap attrT).length≤(la.flatMap attrT).length:=by
 conv=>rhs;rw[←List.take_append_drop i la]
 rw[List.flatMap_append,List.length_append];omega
theorem txtL_app:∀a b:List Node,txtL (a++b)=txtL a++txtL b
 | [],b=>by rw[txtL];rfl
 | n::r,b=>by rw[List.cons_append,txtL,txtL,txtL_app r b,List.append_assoc]
theorem txtL_step (l:List Node) (i:Nat) (h:i< l.length):txtL (l.take (i+1))=txtL (l.take i)++txtN l[i]:=by
 rw[←List.take_append_getElem h,txtL_app,txtL,txtL,List.append_nil]
theorem txtL_len (l:List Node) (i:Nat):(txtL (l.take i)).length≤(txtL l).length:=by
 conv=>rhs;rw[←List.take_append_drop i l]
 rw[txtL_app,List.length_append];omega
def NodeP (N:Nat):Prop:=∀(n:Node) (w0 W:World) (L:Bytes) (p:Nat→Prop) (xa xk:Value),nsz n≤N→L.length+(txtN n).length≤140737488355328→PB w0 W L→Rep w0 p xa (attrsD n.attrs)→Rep w0 p xk (nodesD n.kids)→cntN n≤1048576→
  Calls Tryz.prog 69 #[.pointer (some ⟨w0.heap.size,0,none⟩),.agg #[.int .i64 n.kind,.string (bs n.name),.string (bs n.text),xa,xk]] W fun e w'=>(∃u,e= .returned u)∧PB w0 w' (L++txtN n)∧PK w0 W w'
theorem element_any (N:Nat) (ih:NodeP N) (n:Node) (w0 W:World) (L:Bytes) (p:Nat→Prop) (xa xk:Value) (hN:nszL n.kids≤N) (hL:L.length+(elT n).length≤140737488355328) (h:PB w0 W L) (hva:Rep w0 p xa (attrsD n.attrs)) (hvk:Rep w0 p xk (nodesD n.kids)) (hcnt:cntN n≤1048576):
  Calls Tryz.prog 109 #[.pointer (some ⟨w0.heap.size,0,none⟩),.agg #[.int .i64 n.kind,.string (bs n.name),.string (bs n.text),xa,xk]] W fun e w'=>(∃u,e= .returned u)∧PB w0 w' (L++elT n)∧PK w0 W w':=by
 obtain⟨ba,ca,rfl,ha1,ha2⟩:=hva.count z_attr (by omega)
 obtain⟨bk,ck,rfl,hk1,hk2⟩:=hvk.count z_node (by omega)
 have hck:=cnt_kids n
 have hckl:=cntL_len n.kids
 have hkids:n.kids.length≤1048576:=by omega
 have hcL:cntL n.kids≤1048576:=by omega
 obtain⟨cx,hcx⟩:∃o,Obj.cells #[.int .i64 n.kind,.string (bs n.name),.string (bs n.text),.slice ba n.attrs.length ca,.slice bk n.kids.length ck] 26=o:=⟨_,rfl⟩
 obtain⟨w1,hw1⟩:∃w1,W.alloc cx=w1:=⟨_,rfl⟩
 obtain⟨g3,hg3⟩:∃g,W.heap.size=g:=⟨_,rfl⟩
 have hE1:Ext W w1:=by rw[←hw1];exact(Ext.refl W).alloc _
 have hb3:B5 w1 g3 n (.slice ba n.attrs.length ca) (.slice bk n.kids.length ck):=by rw[←hw1,←hg3,←hcx];exact b5_box W n _ _
 have hf3:Fz w0 w1 g3:=by rw[←hw1,←hg3];exact h.fresh _
 have hS1:PS w0 w1 w1 L:=⟨h.ext hE1,PK.refl _ _⟩
 have HK0:=Lh (PK.ext h.lt hE1)
 have HB3:=Lh (And.intro hb3 hf3)
 have HW:=Lh (And.intro hw1 hg3)
 have c1:=hb3.c1
 have c3:=hb3.c3
 have c4:=hb3.c4
 -- the lengths of what is written
 have hAn:L.length+(1+n.name.length+(n.attrs.flatMap attrT).length)+2≤140737488355328∧(n.kids.length≠0→L.length+(1+n.name.length+(n.attrs.flatMap attrT).length+1+(txtL n.kids).length+2+n.name.length+1)≤140737488355328):=by
  unfold elT at hL
  split at hL
  ·
   rename_i hz
   simp only[List.length_append,List.length_cons,List.length_nil]at hL
   exact⟨by omega,fun h=>absurd hz h⟩
  ·
   simp only[List.length_append,List.length_cons,List.length_nil]at hL
   exact⟨by omega,fun _=>by omega⟩
 have HLN:=Lh hAn
 have HP1:=Lh (put_new w0 w1 L [[60],n.name] (by have:=HLN.out;simp only[List.flatten_cons,List.flatten_nil,List.append_nil,List.length_append,List.length_cons,List.length_nil];omega) (by simp) hS1.b)
 have HN:=Lh hN
 have HS1:=Lh hS1
 clear hL h hw1 hg3 hE1 hb3 hf3 hck hckl hN hS1 hAn
 go_enter Tryz.func109,Tryz.ntmps109
 go_upto_region 1 with fail
 rw[HW.out.1,HW.out.2]
 go_wp2_with fail
 refine HP1.out.mono ?_
 rintro e w2 ⟨⟨u,rfl⟩,hP2,hK2⟩
 have hS2:PS w0 w1 w2 (L++([60]++n.name)):=HS1.out.next (by simpa using hP2) hK2
 have c3:=hS2.cell HB3.out.1.lt HB3.out.2 c3
 have HS2:=Lh hS2
 clear hS2 hP2 hK2 HP1 c1 c4
 go_wp2_with fail
 go_loopw [5,16] (fun _ t wr=>∃i:Nat,t= .int .i64 i∧i≤n.attrs.length∧Hid (PS w0 w1 wr (L++([60]++n.name++(n.attrs.take i).flatMap attrT)))) (fun _ t _=>downV n.attrs.length t)
 case atStart=>exact⟨0,rfl,Nat.zero_le _,Lh (by simpa using HS2.out)⟩
 case round=>
  clear c3 HS2
  obtain⟨i,rfl,hi,HI⟩:=hrel
  have hi0:(0:Int)≤(i:Int):=by omega
  by_cases hlt:i< n.attrs.length
  ·
   have hlI:(i:Int)< (n.attrs.length:Int):=by omega
   obtain⟨ga,oa,rfl,lga,_,d1,d2⟩:=attr_at (hva.ext HI.out.b.2) i hlt
   have hst:(n.attrs.take (i+1)).flatMap attrT=(n.attrs.take i).flatMap attrT++attrT n.attrs[i]:=by rw[←List.take_append_getElem hlt,List.flatMap_append];simp
   have hle:=flatA_len n.attrs (i+1)
   obtain⟨y,hy⟩:∃y,n.attrs[i]=y:=⟨_,rfl⟩
   rw[hy]at d1 d2 hst
   obtain⟨w5,hw5⟩:∃W,wr.alloc (.cells #[.string (bs y.n),.string (bs y.v)] 114)=W:=⟨_,rfl⟩
   obtain⟨g5,hg5⟩:∃g,wr.heap.size=g:=⟨_,rfl⟩
   have hE5:Ext wr w5:=by rw[←hw5];exact(Ext.refl wr).alloc _
   have e0:w5.cell? ⟨g5,0,none⟩=some (.string (bs y.n)):=by rw[←hw5,←hg5];simp[go_sem]
   have e1:w5.cell? ⟨g5,1,none⟩=some (.string (bs y.v)):=by rw[←hw5,←hg5];simp[go_sem]
   have l5:g5< w5.heap.size:=by rw[←hw5,←hg5];simp
   have hf5:Fz w0 w5 g5:=by rw[←hw5,←hg5];exact HI.out.b.fresh _
   have HW5:=Lh (And.intro hw5 hg5)
   have hA:(attrT y).length=1+y.n.length+2+(escS true y.v).length+1:=by unfold attrT;simp only[List.length_append,List.length_cons,List.length_nil]
   rw[hst,List.length_append]at hle
   obtain⟨M,hM⟩:∃M,L++([60]++n.name++(n.attrs.take i).flatMap attrT)=M:=⟨_,rfl⟩
   have hMl:M.length+(attrT y).length≤140737488355328:=by
    rw[←hM];have:=HLN.out.1;simp only[List.length_append,List.length_cons,List.length_nil];omega
   have hMn:L++([60]++n.name++(n.attrs.take (i+1)).flatMap attrT)=M++ [32]++y.n++ [61,34]++escS true y.v++ [34]:=by
    rw[hst,←hM];unfold attrT;simp only[List.append_assoc]
   rw[hM]at HI
   have hS5:PS w0 w5 w5 M:=⟨HI.out.b.ext hE5,PK.refl _ _⟩
   have HK5:=Lh (PK.ext HI.out.b.lt hE5)
   have HM:=Lh (And.intro hMl (And.intro hA (And.intro hMn hf5)))
   have HPa:=Lh (put_new w0 w5 M [[32],y.n,[61,34]] (by simp only[List.flatten_cons,List.flatten_nil,List.append_nil,List.length_append,List.length_cons,List.length_nil];omega) (by simp) hS5.b)
   have HS5:=Lh hS5
   clear hS5 hy hle hw5 hg5 hE5 hM hMl hMn hst hA hf5
   go_upto_region 5 with fail
   rw[HW5.out.1,HW5.out.2]
   go_wp2_with fail
   refine HPa.out.mono ?_
   rintro e w6 ⟨⟨u6,rfl⟩,hP6,hK6⟩
   have hS6:PS w0 w5 w6 (M++([32]++y.n++ [61,34])):=HS5.out.next (by simpa using hP6) hK6
   have e1:=hS6.cell l5 HM.out.2.2.2 e1
   have HPb:=Lh (chars_any w0 w6 (M++([32]++y.n++ [61,34])) y.v true (by have:=HM.out.1;have:=HM.out.2.1;simp only[List.length_append,List.length_cons,List.length_nil];omega) hS6.b)
   have HS6:=Lh hS6
   clear hS6 hP6 hK6 HPa e0 HS5
   go_wp2_with fail
   refine HPb.out.mono ?_
   rintro e w7 ⟨⟨u7,rfl⟩,hP7,hK7⟩
   have hS7:=HS6.out.next hP7 hK7
   have HPc:=Lh (put_new w0 w7 _ [[34]] (by have:=HM.out.1;have:=HM.out.2.1;simp only[List.flatten_cons,List.flatten_nil,List.append_nil,List.length_append,List.length_cons,List.length_nil];omega) (by simp) hS7.b)
   have HS7:=Lh hS7
   clear hS7 hP7 hK7 HPb e1 HS6
   go_wp2_with fail
   refine HPc.out.mono ?_
   rintro e w8 ⟨⟨u8,rfl⟩,hP8,hK8⟩
   have HN8:Hid (PS w0 w1 w8 (L++([60]++n.name++(n.attrs.take (i+1)).flatMap attrT))):=Lh ⟨by rw[HM.out.2.2.1];simpa using hP8,((HI.out.k.trans HK5.out).trans HS7.out.k).trans hK8⟩
   clear HPc hP8 hK8 HS7 HI
   go_wp2_with fail
   go_roundw
   case rel=>exact⟨i+1,by go_num,by omega,HN8⟩
   case measure=>simp only[downV];omega
  ·
   have hlI:¬(i:Int)< (n.attrs.length:Int):=by omega
   have hS:=HI.out
   rw[List.take_of_length_le (by omega)]at hS
   obtain⟨A,hA⟩:∃A,n.attrs.flatMap attrT=A:=⟨_,rfl⟩
   rw[hA]at hS HLN
   have c4':=hS.cell HB3.out.1.lt HB3.out.2 HB3.out.1.c4
   have c1':=hS.cell HB3.out.1.lt HB3.out.2 HB3.out.1.c1
   have HEL:Hid (elT n=if n.kids.length=0 then([60]++n.name++A)++ [47,62]else([60]++n.name++A)++ [62]++txtL n.kids++ [60,47]++n.name++ [62]):=Lh (by unfold elT;rw[hA])
   clear hA HI
   by_cases hk0:n.kids.length=0
   ·
    have hkI:((n.kids.length:Int)==0)=true:=by rw[hk0];rfl
    have HPa:=Lh (put_new w0 wr _ [[47,62]] (by have:=HLN.out.1;simp only[List.flatten_cons,List.flatten_nil,List.append_nil,List.length_append,List.length_cons,List.length_nil];omega) (by simp) hS.b)
    have HE:=Lh (show elT n=([60]++n.name++A)++ [47,62] by rw[HEL.out,if_pos hk0])
    have HS:=Lh hS
    clear hS HEL hk0
    go_wp2_with fail
    refine HPa.out.mono ?_
    rintro e w8 ⟨⟨u8,rfl⟩,hP8,hK8⟩
    have HN8:Hid (PB w0 w8 (L++elT n)∧PK w0 W w8):=Lh ⟨by rw[HE.out];simpa using hP8,(HK0.out.trans HS.out.k).trans hK8⟩
    clear HPa hP8 hK8 HS
    go_wp2_with fail
    refine bodyPost_ret (results_none rfl _ _ _) rfl ?_
    exact⟨⟨_,rfl⟩,HN8.out⟩
   ·
    have hkI:((n.kids.length:Int)==0)=false:=by rw[beq_eq_false_iff_ne];omega
    have HL2:=Lh (HLN.out.2 hk0)
    have HPa:=Lh (put_new w0 wr _ [[62]] (by have:=HL2.out;simp only[List.flatten_cons,List.flatten_nil,List.append_nil,List.length_append,List.length_cons,List.length_nil];omega) (by simp) hS.b)
    have HE:=Lh (show elT n=([60]++n.name++A)++ [62]++txtL n.kids++ [60,47]++n.name++ [62] by rw[HEL.out,if_neg hk0])
    have HS:=Lh hS
    clear hS HEL hk0
    go_wp2_with fail
    refine HPa.out.mono ?_
    rintro e w8 ⟨⟨u8,rfl⟩,hP8,hK8⟩
    have hS8:PS w0 w1 w8 (L++([60]++n.name++A++ [62])):=HS.out.next (by simpa using hP8) hK8
    have c4'':=hS8.cell HB3.out.1.lt HB3.out.2 HB3.out.1.c4
    have HS8:=Lh hS8
    clear HPa hP8 hK8 HS hS8 c4' c1'
    go_wp2_with fail
    go_loopw [7,46] (fun _ t wr=>∃i:Nat,t= .int .i64 i∧i≤n.kids.length∧Hid (PS w0 w1 wr (L++([60]++n.name++A++ [62]++txtL (n.kids.take i))))) (fun _ t _=>downV n.kids.length t)
    case atStart=>exact⟨0,rfl,Nat.zero_le _,Lh (by simpa [txtL]using HS8.out)⟩
    case round=>
     clear c4'' HS8
     obtain⟨i,rfl,hi,HI⟩:=hrel
     have hi0:(0:Int)≤(i:Int):=by omega
     by_cases hlt:i< n.kids.length
     ·
      have hlI:(i:Int)< (n.kids.length:Int):=by omega
      obtain⟨gk,ok,za,zk,rfl,lgk,_,d0,d1,d2,d3,d4,hza,hzk⟩:=node_at hvk i hlt
      have hX:=HI.out.b.2
      have e0:=hX.keep lgk d0;have e1:=hX.keep lgk d1;have e2:=hX.keep lgk d2;have e3:=hX.keep lgk d3;have e4:=hX.keep lgk d4
      have hst:=txtL_step n.kids i hlt
      have hle:=txtL_len n.kids (i+1)
      have hnz:=nszL_get n.kids i hlt
      have hkc:=kid_le n.kids i hlt
      obtain⟨y,hy⟩:∃y,n.kids[i]=y:=⟨_,rfl⟩
      rw[hy]at e0 e1 e2 hza hzk hst hnz hkc
      obtain⟨zab,zac,rfl,_,_⟩:=hza.count z_attr (by omega)
      obtain⟨zkb,zkc,rfl,_,_⟩:=hzk.count z_node (by omega)
      obtain⟨w5,hw5⟩:∃W,wr.alloc (.cells #[.int .i64 y.kind,.string (bs y.name),.string (bs y.text),.slice zab y.attrs.length zac,.slice zkb y.kids.length zkc] 26)=W:=⟨_,rfl⟩
      obtain⟨g5,hg5⟩:∃g,wr.heap.size=g:=⟨_,rfl⟩
      have hE5:Ext wr w5:=by rw[←hw5];exact(Ext.refl wr).alloc _
      have hb5:B5 w5 g5 y (.slice zab y.attrs.length zac) (.slice zkb y.kids.length zkc):=by rw[←hw5,←hg5];exact b5_box wr y _ _
      have n0:=hb5.c0;have n1:=hb5.c1;have n2:=hb5.c2;have n3:=hb5.c3;have n4:=hb5.c4
      have HW5:=Lh (And.intro hw5 hg5)
      rw[hst,List.length_append]at hle
      have HPb:=Lh (ih y w0 w5 (L++([60]++n.name++A++ [62]++txtL (n.kids.take i))) p _ _ (by have:=HN.out;omega) (by have:=HL2.out;simp only[List.length_append,List.length_cons,List.length_nil];omega) (HI.out.b.ext hE5) hza hzk (by omega))
      have HK5:=Lh (HI.out.k.trans (PK.ext HI.out.b.lt hE5))
      have HST:=Lh hst
      clear hy hw5 hg5 hE5 hb5 hst hle hnz hkc hza hzk d0 d1 d2 d3 d4 hX
      go_upto_region 15 with fail
      rw[HW5.out.1,HW5.out.2]
      clear e0 e1 e2 e3 e4
      go_wp2_with fail
      refine HPb.out.mono ?_
      rintro e w6 ⟨⟨u6,rfl⟩,hP6,hK6⟩
      have HN6:Hid (PS w0 w1 w6 (L++([60]++n.name++A++ [62]++txtL (n.kids.take (i+1))))):=Lh ⟨by rw[HST.out];simpa using hP6,HK5.out.trans hK6⟩
      clear HPb hP6 hK6 HI
      go_wp2_with fail
      go_roundw
      case rel=>exact⟨i+1,by go_num,by omega,HN6⟩
      case measure=>simp only[downV];omega
     ·
      have hlI:¬(i:Int)< (n.kids.length:Int):=by omega
      have hS:=HI.out
      rw[List.take_of_length_le (by omega)]at hS
      have c1'':=hS.cell HB3.out.1.lt HB3.out.2 HB3.out.1.c1
      have HPb:=Lh (put_new w0 wr _ [[60,47],n.name,[62]] (by have:=HL2.out;simp only[List.flatten_cons,List.flatten_nil,List.append_nil,List.length_append,List.length_cons,List.length_nil];omega) (by simp) hS.b)
      have HS:=Lh hS
      clear hS HI
      go_wp2_with fail
      refine HPb.out.mono ?_
      rintro e w6 ⟨⟨u6,rfl⟩,hP6,hK6⟩
      have HN6:Hid (PB w0 w6 (L++elT n)∧PK w0 W w6):=Lh ⟨by rw[HE.out];simpa using hP6,(HK0.out.trans HS.out.k).trans hK6⟩
      clear HPb hP6 hK6 HS
      go_wp2_with fail
      refine bodyPost_end (results_none rfl _ _ _) rfl ?_
      exact⟨⟨_,rfl⟩,HN6.out⟩
theorem txt_2 (n:Node) (h:n.kind=2):txtN n=escS false n.text:=by
 cases n with | mk k nm t la ks=>have hk:k=2:=h;subst hk;rw[txtN,if_pos rfl];rfl
theorem txt_3 (n:Node) (h:n.kind=3):txtN n= [60,33,45,45]++n.text++ [45,45,62]:=by
 cases n with | mk k nm t la ks=>have hk:k=3:=h;subst hk;rw[txtN,if_neg (by decide),if_pos rfl];rfl
theorem txt_4 (n:Node) (h:n.kind=4):txtN n=if n.text= []then [60,63]++n.name++ [63,62]else [60,63]++n.name++ [32]++n.text++ [63,62]:=by
 cases n with | mk k nm t la ks=>have hk:k=4:=h;subst hk;rw[txtN,if_neg (by decide),if_neg (by decide),if_pos rfl];rfl
theorem txt_5 (n:Node) (h1:n.kind≠1) (h2:n.kind≠2) (h3:n.kind≠3) (h4:n.kind≠4):txtN n= []:=by
 cases n with | mk k nm t la ks=>have e1:k≠1:=h1;have e2:k≠2:=h2;have e3:k≠3:=h3;have e4:k≠4:=h4;rw[txtN,if_neg e2,if_neg e3,if_neg e4,if_pos e1]
theorem nsz_kids (n:Node):nszL n.kids< nsz n:=by
 cases n;rw[nsz];show nszL _< _;simp only[Node.kids];omega
theorem node_any:∀N:Nat,NodeP N:=by
 intro N
 induction N with
 | zero=>intro n w0 W L p xa xk hN;have:=nsz_kids n;omega
 | succ N ih=>
 intro n w0 W L p xa xk hN hL h hva hvk hcnt
 obtain⟨ba,ca,rfl,ha1,ha2⟩:=hva.count z_attr (by omega)
 obtain⟨bk,ck,rfl,hk1,hk2⟩:=hvk.count z_node (by omega)
 obtain⟨w1,hw1⟩:∃w1,W.alloc (.cells #[.int .i64 n.kind,.string (bs n.name),.string (bs n.text),.slice ba n.attrs.length ca,.slice bk n.kids.length ck] 26)=w1:=⟨_,rfl⟩
 obtain⟨g3,hg3⟩:∃g,W.heap.size=g:=⟨_,rfl⟩
 have hE1:Ext W w1:=by rw[←hw1];exact(Ext.refl W).alloc _
 have hb3:B5 w1 g3 n (.slice ba n.attrs.length ca) (.slice bk n.kids.length ck):=by rw[←hw1,←hg3];exact b5_box W n _ _
 have hf3:Fz w0 w1 g3:=by rw[←hw1,←hg3];exact h.fresh _
 have hS1:PS w0 w1 w1 L:=⟨h.ext hE1,PK.refl _ _⟩
 have HK0:=Lh (PK.ext h.lt hE1)
 have HB3:=Lh (And.intro hb3 hf3)
 have HW:=Lh (And.intro hw1 hg3)
 have HS1:=Lh hS1
 have c0:=hb3.c0;have c1:=hb3.c1;have c2:=hb3.c2;have c3:=hb3.c3;have c4:=hb3.c4
 have hlen:=cntN_own n
 have hnk:=nsz_kids n
 obtain⟨TX,hTX⟩:∃T,txtN n=T:=⟨_,rfl⟩
 rw[hTX]at hL⊢
 have HEL:Hid (n.kind=1→Calls Tryz.prog 109 #[.pointer (some ⟨w0.heap.size,0,none⟩),.agg #[.int .i64 n.kind,.string (bs n.name),.string (bs n.text),.slice ba n.attrs.length ca,.slice bk n.kids.length ck]] w1 fun e w'=>(∃u,e= .returned u)∧PB w0 w' (L++TX)∧PK w0 w1 w'):=Lh fun hk=>by
  have e:=txtN_el n hk
  rw[hTX]at e
  rw[e]at hL⊢
  exact element_any N ih n w0 w1 L p _ _ (by omega) hL hS1.b hva hvk hcnt
 have HTX:=Lh hTX
 have HL:=Lh hL
 clear hva hvk hE1 hb3 hf3 hS1 h hw1 hg3 hTX hL
 go_enter Tryz.func69,Tryz.ntmps69
 go_upto_region 1 with fail
 rw[HW.out.1,HW.out.2]
 clear hN hnk
 by_cases hk:n.kind=1
 ·
  have q1:(n.kind==1)=true:=by rw[hk];rfl
  have q2:(n.kind==2)=false:=by rw[hk];rfl
  have q3:(n.kind==3)=false:=by rw[hk];rfl
  have q4:(n.kind==4)=false:=by rw[hk];rfl
  have HC:=Lh (HEL.out hk)
  clear hk HEL hlen
  go_wp2_with fail
  refine HC.out.mono ?_
  rintro e w2 ⟨⟨u,rfl⟩,hP,hK⟩
  have HN:=Lh (And.intro hP (HK0.out.trans hK))
  clear hP hK HC
  go_wp2_with fail
  refine bodyPost_end (results_none rfl _ _ _) rfl ?_
  exact⟨⟨_,rfl⟩,HN.out⟩
 have q1:(n.kind==1)=false:=by rw[beq_eq_false_iff_ne];exact hk
 by_cases hk2:n.kind=2
 ·
  have q2:(n.kind==2)=true:=by rw[hk2];rfl
  have q3:(n.kind==3)=false:=by rw[hk2];rfl
  have q4:(n.kind==4)=false:=by rw[hk2];rfl
  have hT:escS false n.text=TX:=by rw[←txt_2 n hk2];exact HTX.out
  have HC:=Lh (chars_any w0 w1 L n.text false (by rw[hT];exact HL.out) HS1.out.b)
  rw[hT]at HC
  clear hk hk2 HEL hlen hT
  go_wp2_with fail
  refine HC.out.mono ?_
  rintro e w2 ⟨⟨u,rfl⟩,hP,hK⟩
  have HN:=Lh (And.intro hP (HK0.out.trans hK))
  clear hP hK HC
  go_wp2_with fail
  refine bodyPost_end (results_none rfl _ _ _) rfl ?_
  exact⟨⟨_,rfl⟩,HN.out⟩
 have q2:(n.kind==2)=false:=by rw[beq_eq_false_iff_ne];exact hk2
 by_cases hk3:n.kind=3
 ·
  have q3:(n.kind==3)=true:=by rw[hk3];rfl
  have q4:(n.kind==4)=false:=by rw[hk3];rfl
  have hT: [[60,33,45,45],n.text,[45,45,62]].flatten=TX:=by rw[←HTX.out,txt_3 n hk3];simp
  have HC:=Lh (put_new w0 w1 L [[60,33,45,45],n.text,[45,45,62]] (by rw[hT];exact HL.out) (by simp) HS1.out.b)
  rw[hT]at HC
  clear hk hk2 hk3 HEL hlen hT
  go_wp2_with fail
  refine HC.out.mono ?_
  rintro e w2 ⟨⟨u,rfl⟩,hP,hK⟩
  have HN:=Lh (And.intro hP (HK0.out.trans hK))
  clear hP hK HC
  go_wp2_with fail
  refine bodyPost_end (results_none rfl _ _ _) rfl ?_
  exact⟨⟨_,rfl⟩,HN.out⟩
 have q3:(n.kind==3)=false:=by rw[beq_eq_false_iff_ne];exact hk3
 by_cases hk4:n.kind=4
 ·
  have q4:(n.kind==4)=true:=by rw[hk4];rfl
  have hT:=txt_4 n hk4
  rw[HTX.out]at hT
  by_cases ht:n.text= []
  ·
   rw[if_pos ht]at hT
   have hTl:TX.length=2+n.name.length+2:=by rw[hT];simp only[List.length_append,List.length_cons,List.length_nil]
   have t1:((bs n.text).toList != [])=false:=by rw[bs_toList,ht];rfl
   have t3:(bs n.text).toList.isEmpty=true:=by rw[bs_toList,ht];rfl
   have HC:=Lh (put_new w0 w1 L [[60,63],n.name] (by have:=HL.out;simp only[List.flatten_cons,List.flatten_nil,List.append_nil,List.length_append,List.length_cons,List.length_nil];omega) (by simp) HS1.out.b)
   have HT:=Lh (And.intro hT hTl)
   clear hk hk2 hk3 hk4 HEL hlen hT hTl ht
   go_wp2_with fail
   refine HC.out.mono ?_
   rintro e w2 ⟨⟨u,rfl⟩,hP,hK⟩
   have hS:=HS1.out.next hP hK
   have c2:=hS.cell HB3.out.1.lt HB3.out.2 c2
   have HC2:=Lh (put_new w0 w2 _ [[63,62]] (by have:=HL.out;have:=HT.out.2;simp only[List.flatten_cons,List.flatten_nil,List.append_nil,List.length_append,List.length_cons,List.length_nil];omega) (by simp) hS.b)
   have HS:=Lh hS
   clear hP hK HC hS c0 c1 c3 c4
   go_wp2_with fail
   refine HC2.out.mono ?_
   rintro e w3 ⟨⟨u3,rfl⟩,hP,hK⟩
   have HN:Hid (PB w0 w3 (L++TX)∧PK w0 W w3):=Lh ⟨by rw[HT.out.1];simpa using hP,(HK0.out.trans HS.out.k).trans hK⟩
   clear hP hK HC2 HS
   go_wp2_with fail
   refine bodyPost_end (results_none rfl _ _ _) rfl ?_
   exact⟨⟨_,rfl⟩,HN.out⟩
  ·
   rw[if_neg ht]at hT
   have hTl:TX.length=2+n.name.length+1+n.text.length+2:=by rw[hT];simp only[List.length_append,List.length_cons,List.length_nil]
   have t1:((bs n.text).toList != [])=true:=by rw[bs_toList,bne_iff_ne];exact ht
   have t3:(bs n.text).toList.isEmpty=false:=by rw[bs_toList];cases hh:n.text with | nil=>exact absurd hh ht | cons=>rfl
   have HC:=Lh (put_new w0 w1 L [[60,63],n.name] (by have:=HL.out;simp only[List.flatten_cons,List.flatten_nil,List.append_nil,List.length_append,List.length_cons,List.length_nil];omega) (by simp) HS1.out.b)
   have HT:=Lh (And.intro hT hTl)
   clear hk hk2 hk3 hk4 HEL hlen hT hTl ht
   go_wp2_with fail
   refine HC.out.mono ?_
   rintro e w2 ⟨⟨u,rfl⟩,hP,hK⟩
   have hS:=HS1.out.next hP hK
   have c2:=hS.cell HB3.out.1.lt HB3.out.2 c2
   have HC2:=Lh (put_new w0 w2 _ [[32],n.text] (by have:=HL.out;have:=HT.out.2;simp only[List.flatten_cons,List.flatten_nil,List.append_nil,List.length_append,List.length_cons,List.length_nil];omega) (by simp) hS.b)
   have HS:=Lh hS
   clear hP hK HC hS c0 c1 c3 c4
   go_wp2_with fail
   refine HC2.out.mono ?_
   rintro e w3 ⟨⟨u3,rfl⟩,hP,hK⟩
   have hS:=HS.out.next hP hK
   have HC3:=Lh (put_new w0 w3 _ [[63,62]] (by have:=HL.out;have:=HT.out.2;simp only[List.flatten_cons,List.flatten_nil,List.append_nil,List.length_append,List.length_cons,List.length_nil];omega) (by simp) hS.b)
   have HS3:=Lh hS
   clear hP hK HC2 HS hS c2
   go_wp2_with fail
   refine HC3.out.mono ?_
   rintro e w4 ⟨⟨u4,rfl⟩,hP,hK⟩
   have HN:Hid (PB w0 w4 (L++TX)∧PK w0 W w4):=Lh ⟨by rw[HT.out.1];simpa using hP,(HK0.out.trans HS3.out.k).trans hK⟩
   clear hP hK HC3 HS3
   go_wp2_with fail
   refine bodyPost_end (results_none rfl _ _ _) rfl ?_
   exact⟨⟨_,rfl⟩,HN.out⟩
 have q4:(n.kind==4)=false:=by rw[beq_eq_false_iff_ne];exact hk4
 have HN:Hid (PB w0 w1 (L++TX)∧PK w0 W w1):=Lh ⟨by rw[←HTX.out,txt_5 n hk hk2 hk3 hk4,List.append_nil];exact HS1.out.b,HK0.out⟩
 clear hk hk2 hk3 hk4 HEL hlen
 go_wp2_with fail
 refine bodyPost_end (results_none rfl _ _ _) rfl ?_
 exact⟨⟨_,rfl⟩,HN.out⟩
end Go.Proofs.YtcfibjiikhnfhaaGreatDoor
