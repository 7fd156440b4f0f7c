/-
 norm.compare. Helper lemmas;no statement of the seat is proved here.
-/
import Derived.Test.YtcfibjiikhnfhaaGreatDoorU8
import Derived.Test.YtcfibjiikhnfhaaGreatDoorU9
import Derived.Sort.Grow
import Derived.Deep.DeepCutAuto
import Derived.Test.YtcfibjiikhnfhaaGreatDoorU4
import Derived.Deep.QuietTactic
import Derived.BigQuiet
import Derived.IntWalk
import Derived.Shelf.Spec.DecodeRune
import Derived.Lib.TrimU
import Derived.Lib.MapLaws
import Derived.Lib.TrimUEq
import Derived.Lib.OthersKept
import Derived.Lib.ValidLaws
import Derived.Shelf.Unicode.ValidAny
import Derived.Test.YtcfibjiikhnfhaaGreatDoorU1
import Derived.Maps.RangeWalk
import Derived.Maps.OwnSet
import Derived.Maps.OwnOps
import Derived.Sort.KeysCollected
namespace Go.Proofs.YtcfibjiikhnfhaaGreatDoor
open Go.RowKit
set_option maxHeartbeats 32000000
set_option maxRecDepth 100000
set_option linter.unusedVariables false
set_option linter.unusedSimpArgs false
open Go.Sort
def Gw (w w':World):Prop:=∃q os',w'=grow (w.drewN q) os'
theorem Gw.refl (w:World):Gw w w:=⟨0,#[],by rw[grow_empty];rfl⟩
theorem Gw.ext {a b c:World} (h:Gw a b) (k:Gw b c):Gw a c:=by
 obtain⟨q,o,rfl⟩:=h
 obtain⟨q',o',rfl⟩:=k
 exact⟨q+q',o++o',by simp[grow,World.drewN,Array.append_assoc,Nat.add_assoc]⟩
theorem Gw.alloc {a b:World} (h:Gw a b) (o:Obj):Gw a (b.alloc o):=h.ext ⟨0,#[o],by rw[alloc_eq_grow];rfl⟩
theorem Gw.begin (w:World):Gw w (World.drew w):=⟨1,#[],by rw[grow_empty];rfl⟩
theorem Gw.to {a b:World} (h:Gw a b):Ext a b:=by
 obtain⟨q,o,rfl⟩:=h
 exact⟨rfl,rfl,rfl,by simp[grow,World.drewN],fun k hk=>by simp only[grow,World.drewN];rw[Array.getElem?_append_left hk]⟩
theorem Gw.cell {a w:World} (h:Gw a w) {b o:Nat} {v:Value} (hb:b< a.heap.size) (hc:a.cell? ⟨b,o,none⟩=some v):w.cell? ⟨b,o,none⟩=some v:=h.to.keep hb hc
theorem tk_newG {P:Program} {ops:Array Oper} {Q:Exit→Act→World→Prop} {a:Act} {w:World} {K:Act→World→Prop} (i:Nat) (d:Option Tmp) (o:Obj) (f:Nat→Value) {oi:Oper} (hi:ops[i]? =some oi) (hd:oi.dst=d) (hw:Region.wanted oi (yielded ops a.tmps)=true)
  (hrun:(execOp a.eval oi).run P w= .ok (.value (f w.heap.size)) (w.alloc o)) (h:∀g W,g=w.heap.size→Gw w W→W.heap[g]? =some o→K (a.put d (f g)) W):wpOp P ops Q i K a w:=by
 unfold wpOp
 simp only[hi,hw,if_true]
 refine Or.inl ?_
 unfold Oper.wp
 rw[hrun,Oper.upon_value,hd]
 exact h _ _ rfl ((Gw.refl w).alloc _) Array.getElem?_push_size
def stepI (a b:Step):Int:=if Lib.compareBytes a.n b.n=0 then cmpK a.key b.key else Lib.compareBytes a.n b.n
theorem stepG_any (a b:Step) (p q:Nat→Prop) (v u:Value) (w:World) (hx:Rep w p v (strsD a.key)) (hy:Rep w q u (strsD b.key)):
  Calls Tryz.prog 52 #[.agg #[.string (bs a.n),v],.agg #[.string (bs b.n),u]] w fun e w'=>e= .returned (.int .i64 (stepI a b))∧Gw w w':=by
 obtain⟨ka,kc,rfl,_,_⟩:=hx.count z_str (by omega)
 obtain⟨la,lc,rfl,_,_⟩:=hy.count z_str (by omega)
 unfold stepI
 have HC1:=Lh fun W (hE:Gw w W)=>(compare_any a.n b.n W).mono fun e w' (h:e=Ending.returned (.int .i64 (Lib.compareBytes a.n b.n))∧w'=W)=>(⟨h.1,h.2 ▸ Gw.refl W⟩:e=Ending.returned (.int .i64 (Lib.compareBytes a.n b.n))∧Gw W w')
 have HC2:=Lh fun W (hE:Gw w W)=>(cmpK_any a.key b.key p q _ _ W (hx.ext hE.to) (hy.ext hE.to)).mono fun e w' (h:e=Ending.returned (.int .i64 (cmpK a.key b.key))∧w'=W)=>(⟨h.1,h.2 ▸ Gw.refl W⟩:e=Ending.returned (.int .i64 (cmpK a.key b.key))∧Gw W w')
 obtain⟨z1,hz1⟩:∃z,Lib.compareBytes a.n b.n=z:=⟨_,rfl⟩
 obtain⟨z2,hz2⟩:∃z,cmpK a.key b.key=z:=⟨_,rfl⟩
 rw[hz1]at HC1⊢
 rw[hz2]at HC2⊢
 obtain⟨w2,hw2⟩:∃W,w.alloc (.cells #[.string (bs a.n),.slice ka a.key.length kc] 96)=W:=⟨_,rfl⟩
 obtain⟨w3,hw3⟩:∃W,w2.alloc (.cells #[.string (bs b.n),.slice la b.key.length lc] 96)=W:=⟨_,rfl⟩
 obtain⟨g2,hg2⟩:∃g,w.heap.size=g:=⟨_,rfl⟩
 obtain⟨g3,hg3⟩:∃g,g2+1=g:=⟨_,rfl⟩
 have hs2:w2.heap.size=g3:=by rw[←hw2,←hg3,←hg2];simp
 have hE2:Ext w w2:=by rw[←hw2];exact(Ext.refl w).alloc _
 have hE3:Ext w2 w3:=by rw[←hw3];exact(Ext.refl w2).alloc _
 have l22:g2< w2.heap.size:=by omega
 have b02:w2.cell? ⟨g2,0,none⟩=some (.string (bs a.n)):=by rw[←hw2,←hg2];simp[go_sem]
 have b12:w2.cell? ⟨g2,1,none⟩=some (.slice ka a.key.length kc):=by rw[←hw2,←hg2];simp[go_sem]
 have b0:=hE3.keep l22 b02
 have b1:=hE3.keep l22 b12
 have l2:g2< w3.heap.size:=Nat.lt_of_lt_of_le l22 hE3.size
 have l3:g3< w3.heap.size:=by rw[←hw3,←hs2];simp
 have d0:w3.cell? ⟨g3,0,none⟩=some (.string (bs b.n)):=by rw[←hw3,←hs2];simp[go_sem]
 have d1:w3.cell? ⟨g3,1,none⟩=some (.slice la b.key.length lc):=by rw[←hw3,←hs2];simp[go_sem]
 have hE:Gw w w3:=by rw[←hw3,←hw2];exact((Gw.refl w).alloc _).alloc _
 have HC1':=Lh fun W (h:Gw w3 W)=>HC1.out W (hE.ext h)
 have HC2':=Lh fun W (h:Gw w3 W)=>HC2.out W (hE.ext h)
 have HE:=Lh hE
 have HW:=Lh (And.intro hw2 (And.intro hw3 (And.intro hg2 hg3)))
 clear HC1 HC2 hx hy hz1 hz2 hw2 hw3 hg2 hg3 hs2 hE2 hE3 hE b02 b12 l22
 have HC1:=HC1'
 have HC2:=HC2'
 clear HC1' HC2'
 go_enter Tryz.func52,Tryz.ntmps52
 go_upto_region 1 with fail
 rw[HW.out.1,HW.out.2.1,HW.out.2.2.1]
 (try rw[HW.out.2.2.2])
 go_wp2_with fail
 refine rg_begin (S:=Gw w3) (by kernel_rfl) (Gw.begin _) ?_
 have hS:Gw w3 (World.drew w3):=(Gw.begin _)
 refine rg_t 0 (some 5) (.pointer (some ⟨g2,0,none⟩)) rfl hS (fun w' hs=>by first | rfl | go_simp) ?_
 simp only[Act.put,sA,sZ,sS]
 refine rg_t 1 (some 6) (.string (bs a.n)) rfl hS (fun w' hs=>by(have h0:=hs.cell l2 b0;go_simp)) ?_
 simp only[Act.put,sA,sZ,sS]
 refine rg_t 2 (some 7) (.pointer (some ⟨g3,0,none⟩)) rfl hS (fun w' hs=>by first | rfl | go_simp) ?_
 simp only[Act.put,sA,sZ,sS]
 refine rg_t 3 (some 8) (.string (bs b.n)) rfl hS (fun w' hs=>by(have h0:=hs.cell l3 d0;go_simp)) ?_
 simp only[Act.put,sA,sZ,sS]
 refine rg_t 5 (some 10) (.pointer (some ⟨g2,1,none⟩)) rfl hS (fun w' hs=>by first | rfl | go_simp) ?_
 simp only[Act.put,sA,sZ,sS]
 refine rg_t 6 (some 11) (.slice ka a.key.length kc) rfl hS (fun w' hs=>by(have h0:=hs.cell l2 b1;go_simp)) ?_
 simp only[Act.put,sA,sZ,sS]
 refine rg_t 7 (some 12) (.pointer (some ⟨g3,1,none⟩)) rfl hS (fun w' hs=>by first | rfl | go_simp) ?_
 simp only[Act.put,sA,sZ,sS]
 refine rg_t 8 (some 13) (.slice la b.key.length lc) rfl hS (fun w' hs=>by(have h0:=hs.cell l3 d1;go_simp)) ?_
 simp only[Act.put,sA,sZ,sS]
 refine rg_call 4 (some 9) 88 #[.string (bs a.n),.string (bs b.n)] rfl rfl (by kernel_rfl) (by rfl) (fun w'=>by first | rfl | go_simp) (R:=fun v w'=>v= .int .i64 z1∧Gw (World.drew w3) w') ?_ ?_
 ·
  refine(HC1.out (World.drew w3) hS).mono ?_
  rintro e w' ⟨rfl,h⟩
  exact⟨_,rfl,rfl,h⟩
 rintro _ wr1 ⟨rfl,hBr1⟩
 have hS1:=hS.ext hBr1
 refine⟨hS1,?_⟩
 simp only[Act.put,sA,sZ,sS]
 refine rg_call 9 (some 14) 98 #[.slice ka a.key.length kc,.slice la b.key.length lc] rfl rfl (by kernel_rfl) (by rfl) (fun w'=>by first | rfl | go_simp) (R:=fun v w'=>v= .int .i64 z2∧Gw wr1 w') ?_ ?_
 ·
  refine(HC2.out wr1 hS1).mono ?_
  rintro e w' ⟨rfl,h⟩
  exact⟨_,rfl,rfl,h⟩
 rintro _ wr2 ⟨rfl,hBr2⟩
 have hS2:=hS1.ext hBr2
 refine⟨hS2,?_⟩
 simp only[Act.put,sA,sZ,sS]
 refine rg_one 10 (by kernel_rfl) ?_
 refine tk_newG 10 (some 15) (.cells #[.int .i64 z1,.int .i64 z2] 3) (fun n=> .slice (some ⟨n,0,none⟩) 2 2) rfl rfl (by rfl) (by first | rfl | go_simp) ?_
 intro gb wy egb hBwy hgb
 have hSwy:=hS2.ext hBwy
 refine⟨hSwy,?_⟩
 simp only[Act.put,sA,sZ,sS]
 refine rg_one 11 (by kernel_rfl) ?_
 refine tk_call 11 (some 16) 97 #[.slice (some ⟨gb,0,none⟩) 2 2] rfl rfl (by rfl) (fun w'=>by first | rfl | go_simp) (R:=fun v w'=>v= .int .i64 (if z1=0 then z2 else z1)∧Gw wy w') ?_ ?_
 ·
  refine(or_any z1 z2 gb wy (blk_cells hgb 0 rfl) (blk_cells hgb 1 rfl)).mono ?_
  rintro e w' ⟨rfl,rfl⟩
  exact⟨_,rfl,rfl,Gw.refl _⟩
 rintro _ wx ⟨rfl,hBwx⟩
 have hSwx:=hSwy.ext hBwx
 refine⟨hSwx,?_⟩
 simp only[Act.put,sA,sZ,sS]
 refine rg_t 12 (some 4) (.int .i64 (if z1=0 then z2 else z1)) rfl hSwx (fun w' hs=>by rfl) ?_
 simp only[Act.put,sA,sZ,sS]
 refine rg_done (by kernel_rfl) ?_
 have hXf:=HE.out.ext hSwx
 go_wp2_with fail
 all_goals (go_ret;exact⟨rfl,hXf⟩)
theorem stepI_any (a b:Step) (p q:Nat→Prop) (v u:Value) (w:World) (hx:Rep w p v (strsD a.key)) (hy:Rep w q u (strsD b.key)):
  Calls Tryz.prog 52 #[.agg #[.string (bs a.n),v],.agg #[.string (bs b.n),u]] w fun e w'=>e= .returned (.int .i64 (stepI a b))∧Ext w w':=(stepG_any a b p q v u w hx hy).mono fun _ _ h=>⟨h.1,h.2.to⟩
theorem cmpI_lt (a b:Bytes):decide (cmpI a b< 0)=lessB a b:=by
 unfold cmpI
 cases h:lessB a b with
 | true=>rfl
 | false=>
  rw[if_neg (by simp)]
  split<;> rfl
theorem cmpI_zero (a b:Bytes):cmpI a b=0↔a=b:=by
 unfold cmpI
 by_cases hab:a=b
 ·
  subst hab;rw[lessB_irrefl];simp
 ·
  cases h:lessB a b with
  | true=>simp[hab]
  | false=>rw[lessB_total _ _ hab h];simp[hab]
theorem cmpK_zero:∀x y:List Bytes,cmpK x y=0↔x=y
 | [],[]=>by simp[cmpK]
 | [],_::_=>by simp[cmpK]
 | _::_,[]=>by simp[cmpK]
 | a::x,b::y=>by
  unfold cmpK
  by_cases h:cmpI a b=0
  ·
   rw[if_pos h,cmpK_zero x y,(cmpI_zero a b).1 h];simp
  ·
   rw[if_neg h]
   have:¬a=b:=fun e=>h ((cmpI_zero a b).2 e)
   simp[h,this]
theorem cmpK_lt:∀x y:List Bytes,decide (cmpK x y< 0)=lessK x y
 | [],[]=>rfl
 | [],_::_=>rfl
 | _::_,[]=>rfl
 | a::x,b::y=>by
  unfold cmpK lessK
  by_cases h:cmpI a b=0
  ·
   have e:=(cmpI_zero a b).1 h
   subst e
   rw[if_pos h,if_pos rfl];exact cmpK_lt x y
  ·
   rw[if_neg h,if_neg (fun e=>h ((cmpI_zero a b).2 e))];exact cmpI_lt a b
theorem stepI_zero (a b:Step):stepI a b=0↔a=b:=by
 unfold stepI
 by_cases h:Lib.compareBytes a.n b.n=0
 ·
  rw[if_pos h,cmpK_zero]
  have e:=(cmp_zero _ _).1 h
  cases a;cases b;simp_all
 ·
  rw[if_neg h]
  have e:¬a.n=b.n:=fun e=>h ((cmp_zero _ _).2 e)
  exact⟨fun k=>absurd k h,fun k=>absurd (by rw[k]) e⟩
theorem stepI_lt (a b:Step):decide (stepI a b< 0)=aheadB a b:=by
 unfold stepI aheadB
 by_cases h:Lib.compareBytes a.n b.n=0
 ·
  rw[if_pos h,if_pos ((cmp_zero _ _).1 h)];exact cmpK_lt _ _
 ·
  rw[if_neg h,if_neg (fun e=>h ((cmp_zero _ _).2 e))];exact cmp_lt _ _
def blankI (r:Int):Bool:=(r==9) || (r==10) || (r==13) || (r==32)
theorem blank_any (r:Int) (W:World):Calls Tryz.prog 43 #[.int .i32 r] W fun e w'=>e= .returned (.bool (blankI r))∧w'=W:=by
 unfold blankI
 by_cases h9:r=9
 ·
  have q9:(r==9)=true:=by rw[h9];rfl
  have q10:(r==10)=false:=by rw[h9];rfl
  have q13:(r==13)=false:=by rw[h9];rfl
  have q32:(r==32)=false:=by rw[h9];rfl
  rw[q9,q10,q13,q32]
  clear h9
  go_enter Tryz.func43,Tryz.ntmps43
  go_wp2_with fail
  go_ret
  exact⟨rfl,rfl⟩
 have q9:(r==9)=false:=by rw[beq_eq_false_iff_ne];exact h9
 by_cases h10:r=10
 ·
  have q10:(r==10)=true:=by rw[h10];rfl
  have q13:(r==13)=false:=by rw[h10];rfl
  have q32:(r==32)=false:=by rw[h10];rfl
  rw[q9,q10,q13,q32]
  clear h10
  go_enter Tryz.func43,Tryz.ntmps43
  go_wp2_with fail
  go_ret
  exact⟨rfl,rfl⟩
 have q10:(r==10)=false:=by rw[beq_eq_false_iff_ne];exact h10
 by_cases h13:r=13
 ·
  have q13:(r==13)=true:=by rw[h13];rfl
  have q32:(r==32)=false:=by rw[h13];rfl
  rw[q9,q10,q13,q32]
  clear h13
  go_enter Tryz.func43,Tryz.ntmps43
  go_wp2_with fail
  go_ret
  exact⟨rfl,rfl⟩
 have q13:(r==13)=false:=by rw[beq_eq_false_iff_ne];exact h13
 by_cases h32:r=32
 ·
  have q32:(r==32)=true:=by rw[h32];rfl
  rw[q9,q10,q13,q32]
  clear h32
  go_enter Tryz.func43,Tryz.ntmps43
  go_wp2_with fail
  go_ret
  exact⟨rfl,rfl⟩
 have q32:(r==32)=false:=by rw[beq_eq_false_iff_ne];exact h32
 rw[q9,q10,q13,q32]
 go_enter Tryz.func43,Tryz.ntmps43
 go_wp2_with fail
 go_ret
 exact⟨rfl,rfl⟩
def pairC (p:Int×Int):List DV:= [.v (.int .i32 p.1),.v (.int .i32 p.2)]
def pairsD (l:List (Int×Int)):DV:= .s 2 (l.flatMap pairC)
theorem z_pair (p:Int×Int):(pairC p).length=2:=rfl
def inZ (r:Int) (l:List (Int×Int)):Bool:=l.any fun p=>decide (p.1≤r) && decide (r≤p.2)
theorem pair_at {w:World} {p:Nat→Prop} {a:Option Addr} {len cap:Nat} {l:List (Int×Int)} (h:Rep w p (.slice a len cap) (pairsD l)) (i:Nat) (hi:i< l.length):
  ∃b off,a=some ⟨b,off,none⟩∧b< w.heap.size∧w.cell? ⟨b,off+i*2,none⟩=some (.int .i32 l[i].1)∧w.cell? ⟨b,off+i*2+1,none⟩=some (.int .i32 l[i].2):=by
 obtain⟨b,off,ha,hb,hp,hc⟩:=elem_at z_pair h (by omega) i hi
 obtain⟨u0,h0,r0⟩:=hc 0 _ rfl
 obtain⟨u1,h1,r1⟩:=hc 1 _ rfl
 refine⟨b,off,ha,hb,?_,?_⟩
 ·
  rw[←r0.is];exact h0
 ·
  rw[←r1.is];exact h1
def downQ (N:Nat):Value→Nat
 | .int _ i=>N - i.toNat
 | _=>0
theorem within_any (r:Int) (l:List (Int×Int)) (p:Nat→Prop) (v:Value) (w:World) (h:Rep w p v (pairsD l)) (hl:l.length≤1000):
  Calls Tryz.prog 118 #[.int .i32 r,v] w fun e w'=>e= .returned (.bool (inZ r l))∧Ext w w':=by
 obtain⟨a,c,rfl,_,_⟩:=h.count z_pair (by omega)
 obtain⟨R,hR⟩:∃R,inZ r l=R:=⟨_,rfl⟩
 rw[hR]
 have HR:=Lh hR
 have HH:=Lh h
 clear hR h
 go_enter Tryz.func118,Tryz.ntmps118
 go_wp2_with fail
 go_loopw [9] (fun t wr=>∃i:Nat,t= .int .i64 i∧i≤l.length∧Hid (Ext w wr)∧Hid (inZ r (l.drop i)=R)) (fun t _=>downQ l.length t)
 case atStart=>exact⟨0,rfl,Nat.zero_le _,Lh (Ext.refl _),HR⟩
 case round=>
  obtain⟨i,rfl,hi,HX,HI⟩:=hrel
  have hi0:(0:Int)≤(i:Int):=by omega
  have hi8:(i:Int)≤1000:=by omega
  by_cases hlt:i< l.length
  ·
   have hlI:(i:Int)< (l.length:Int):=by omega
   obtain⟨b,off,rfl,lb,c0,c1⟩:=pair_at (HH.out.ext HX.out) i hlt
   have HS:Hid (inZ r (l.drop i)=((decide (l[i].1≤r) && decide (r≤l[i].2)) || inZ r (l.drop (i+1)))):=Lh (by rw[List.drop_eq_getElem_cons hlt];unfold inZ;rw[List.any_cons])
   obtain⟨x,hx⟩:∃x,l[i].1=x:=⟨_,rfl⟩
   obtain⟨y,hy⟩:∃y,l[i].2=y:=⟨_,rfl⟩
   rw[hx]at c0 HS
   rw[hy]at c1 HS
   clear hx hy
   by_cases h1:x≤r
   ·
    by_cases h2:r≤y
    ·
     have HN:Hid (true=R):=Lh (by have:=HS.out;rw[decide_eq_true h1,decide_eq_true h2]at this;rw[←HI.out,this];rfl)
     go_wp2_with fail
     go_ret
     exact⟨ret_bool HN.out,HX.out.alloc _⟩
    ·
     have HN:Hid (inZ r (l.drop (i+1))=R):=Lh (by have:=HS.out;rw[decide_eq_true h1,decide_eq_false h2]at this;rw[←HI.out,this];rfl)
     go_wp2_with fail
     go_roundw
     case rel=>exact⟨i+1,by go_num,by omega,Lh (HX.out.alloc _),HN⟩
     case measure=>simp only[downQ];omega
   ·
    have HN:Hid (inZ r (l.drop (i+1))=R):=Lh (by have:=HS.out;rw[decide_eq_false h1]at this;rw[←HI.out,this];rfl)
    go_wp2_with fail
    go_roundw
    case rel=>exact⟨i+1,by go_num,by omega,Lh (HX.out.alloc _),HN⟩
    case measure=>simp only[downQ];omega
  ·
   have hlI:¬(i:Int)< (l.length:Int):=by omega
   have HN:Hid (false=R):=Lh (by
    have:=HI.out
    rw[List.drop_of_length_le (by omega)]at this
    exact this)
   go_wp2_with fail
   go_ret
   exact⟨ret_bool HN.out,HX.out⟩
def beginsL:List (Int×Int):= [(65,90),(95,95),(97,122),(192,214),(216,246),(248,767),(880,893),(895,8191),(8204,8205),(8304,8591),(11264,12271),(12289,55295),(63744,64975),(65008,65533),(65536,983039)]
theorem begins_any (w:World):Calls Tryz.prog 119 #[] w fun e w'=>(∃v,e= .returned v∧Rep w' (fun _=>True) v (pairsD beginsL))∧Ext w w':=by
 have hR:Rep (w.alloc (.cells #[.int .i32 65,.int .i32 90,.int .i32 95,.int .i32 95,.int .i32 97,.int .i32 122,.int .i32 192,.int .i32 214,.int .i32 216,.int .i32 246,.int .i32 248,.int .i32 767,.int .i32 880,.int .i32 893,.int .i32 895,.int .i32 8191,.int .i32 8204,.int .i32 8205,.int .i32 8304,.int .i32 8591,.int .i32 11264,.int .i32 12271,.int .i32 12289,.int .i32 55295,.int .i32 63744,.int .i32 64975,.int .i32 65008,.int .i32 65533,.int .i32 65536,.int .i32 983039] 225)) (fun _=>True) (.slice (some ⟨w.heap.size,0,none⟩) 15 15) (pairsD beginsL):=
  rep_lit (n:=15) (z:=2) rfl rfl (by decide) (by
   unfold beginsL
   simp only[List.flatMap_cons,List.flatMap_nil,pairC,List.append_nil,List.cons_append,List.nil_append]
   repeat (first | exact Reps.nil _ _ | refine Reps.cons (Rep.int _ _ _ _) ?_))
 have HR:=Lh hR
 clear hR
 go_enter Tryz.func119,Tryz.ntmps119
 go_wp2_with fail
 go_ret
 exact⟨⟨_,rfl,HR.out⟩,(Ext.refl w).alloc _⟩
def goesOnL:List (Int×Int):= [(45,46),(48,57),(183,183),(768,879),(8255,8256)]
theorem goesOn_any (w:World):Calls Tryz.prog 120 #[] w fun e w'=>(∃v,e= .returned v∧Rep w' (fun _=>True) v (pairsD goesOnL))∧Ext w w':=by
 have hR:Rep (w.alloc (.cells #[.int .i32 45,.int .i32 46,.int .i32 48,.int .i32 57,.int .i32 183,.int .i32 183,.int .i32 768,.int .i32 879,.int .i32 8255,.int .i32 8256] 225)) (fun _=>True) (.slice (some ⟨w.heap.size,0,none⟩) 5 5) (pairsD goesOnL):=
  rep_lit (n:=5) (z:=2) rfl rfl (by decide) (by
   unfold goesOnL
   simp only[List.flatMap_cons,List.flatMap_nil,pairC,List.append_nil,List.cons_append,List.nil_append]
   repeat (first | exact Reps.nil _ _ | refine Reps.cons (Rep.int _ _ _ _) ?_))
 have HR:=Lh hR
 clear hR
 go_enter Tryz.func120,Tryz.ntmps120
 go_wp2_with fail
 go_ret
 exact⟨⟨_,rfl,HR.out⟩,(Ext.refl w).alloc _⟩
theorem Begins_any (r:Int) (w:World):Calls Tryz.prog 75 #[.int .i32 r] w fun e w'=>e= .returned (.bool (inZ r beginsL))∧Ext w w':=by
 have HB:=Lh fun W=>begins_any W
 go_enter Tryz.func75,Tryz.ntmps75
 go_wp2_with fail
 refine(HB.out _).mono ?_
 rintro e w1 ⟨⟨v,rfl,hv⟩,hX⟩
 have HC:=Lh (within_any r beginsL _ v w1 hv (by decide))
 clear hv HB
 go_wp2_with fail
 refine HC.out.mono ?_
 rintro e w2 ⟨rfl,hX2⟩
 go_wp2_with fail
 go_ret
 exact⟨rfl,hX.trans hX2⟩
theorem GoesOn_any (r:Int) (w:World):Calls Tryz.prog 76 #[.int .i32 r] w fun e w'=>e= .returned (.bool (inZ r beginsL || inZ r goesOnL))∧Ext w w':=by
 have HB:=Lh fun W=>Begins_any r W
 have HG:=Lh fun W=>goesOn_any W
 obtain⟨b,hb⟩:∃b,inZ r beginsL=b:=⟨_,rfl⟩
 rw[hb]at HB⊢
 clear hb
 go_enter Tryz.func76,Tryz.ntmps76
 go_wp2_with fail
 refine(HB.out _).mono ?_
 rintro e w1 ⟨rfl,hX⟩
 cases b with
 | true=>
  go_wp2_with fail
  go_ret
  exact⟨ret_bool rfl,hX⟩
 | false=>
  go_wp2_with fail
  refine(HG.out _).mono ?_
  rintro e w2 ⟨⟨v,rfl,hv⟩,hX2⟩
  have HC:=Lh (within_any r goesOnL _ v w2 hv (by decide))
  clear hv HB HG
  go_wp2_with fail
  refine HC.out.mono ?_
  rintro e w3 ⟨rfl,hX3⟩
  go_wp2_with fail
  go_ret
  exact⟨ret_bool (by rw[Bool.false_or]),hX.trans (hX2.trans hX3)⟩
def charZ (r:Int):Bool:=
 if r=9∨r=10∨r=13 then true else if r< 32∨1114111< r then false else decide (r≤55295∨(57344≤r∧r≤65533)∨65536≤r)
theorem Char_any (r:Int) (w:World):Calls Tryz.prog 147 #[.int .i32 r] w fun e w'=>e= .returned (.bool (charZ r))∧w'=w:=by
 obtain⟨R,hR⟩:∃R,charZ r=R:=⟨_,rfl⟩
 rw[hR]
 unfold charZ at hR
 by_cases h1:r=9∨r=10∨r=13
 ·
  rw[if_pos h1]at hR
  subst hR
  go_enter Tryz.func147,Tryz.ntmps147
  rcases h1 with rfl | rfl | rfl<;> (go_wp2_with fail;go_ret;exact⟨ret_bool rfl,rfl⟩)
 ·
  rw[if_neg h1]at hR
  have q1:(r==9)=false:=by rw[beq_eq_false_iff_ne];omega
  have q2:(r==10)=false:=by rw[beq_eq_false_iff_ne];omega
  have q3:(r==13)=false:=by rw[beq_eq_false_iff_ne];omega
  by_cases h2:r< 32
  ·
   rw[if_pos (.inl h2)]at hR
   subst hR
   clear h1
   go_enter Tryz.func147,Tryz.ntmps147
   go_wp2_with fail
   go_ret
   exact⟨ret_bool rfl,rfl⟩
  ·
   by_cases h3:r > 1114111
   ·
    rw[if_pos (.inr h3)]at hR
    subst hR
    clear h1
    go_enter Tryz.func147,Tryz.ntmps147
    go_wp2_with fail
    go_ret
    exact⟨ret_bool rfl,rfl⟩
   ·
    rw[if_neg (by omega)]at hR
    have HR:=Lh hR
    clear h1 hR
    go_enter Tryz.func147,Tryz.ntmps147
    by_cases h4:r≤55295
    ·
     go_wp2_with fail
     go_ret
     exact⟨ret_bool ((decide_eq_true (.inl h4)).symm.trans HR.out),rfl⟩
    ·
     by_cases h5:r≥57344
     ·
      by_cases h6:r≤65533
      ·
       go_wp2_with fail
       go_ret
       exact⟨ret_bool ((decide_eq_true (.inr (.inl ⟨h5,h6⟩))).symm.trans HR.out),rfl⟩
      ·
       by_cases h7:r≥65536
       ·
        go_wp2_with fail
        go_ret
        exact⟨ret_bool ((decide_eq_true (.inr (.inr h7))).symm.trans HR.out),rfl⟩
       ·
        go_wp2_with fail
        go_ret
        exact⟨ret_bool ((decide_eq_false (by omega)).symm.trans HR.out),rfl⟩
     ·
      have h7:¬r≥65536:=by omega
      go_wp2_with fail
      go_ret
      exact⟨ret_bool ((decide_eq_false (by omega)).symm.trans HR.out),rfl⟩
def inR (r:Nat) (l:List (Nat×Nat)):Bool:=l.any fun p=>decide (p.1≤r) && decide (r≤p.2)
def beginsR (r:Nat):Bool:=inR r [(65,90),(95,95),(97,122),(192,214),(216,246),(248,767),(880,893),(895,8191),(8204,8205),(8304,8591),(11264,12271),(12289,55295),(63744,64975),(65008,65533),(65536,983039)]
def goesR (r:Nat):Bool:=beginsR r || inR r [(45,46),(48,57),(183,183),(768,879),(8255,8256)]
def charR (r:Nat):Bool:=decide (r=9) || decide (r=10) || decide (r=13) || (decide (32≤r) && decide (r≤1114111) && (decide (r≤55295) || (decide (57344≤r) && decide (r≤65533)) || decide (65536≤r)))
def nextS (l:List UInt8):Nat×Nat:=
 match l with
 | []=>(0,0)
 | c::r=>
  if c< 128 then(if charR c.toNat then(c.toNat,1)else(0,0))
  else if(decide ((Lib.decodeGoB (bs (c::r))).1=65533) && decide ((Lib.decodeGoB (bs (c::r))).2< 2)) || !charR (Lib.decodeGoB (bs (c::r))).1 then(0,0)else Lib.decodeGoB (bs (c::r))
def badGo:Nat→Nat→List UInt8→Int
 | 0,_,_=> -1
 | f+1,i,l=>if l= []then -1 else if(nextS l).2=0 then(i:Int)else badGo f (i+(nextS l).2) (l.drop (nextS l).2)
def badS (l:List UInt8):Int:=badGo l.length 0 l
def Tryz.lays732_ren:Go.Shelf.Ren:=⟨fun | 32=>146 | 49=>189 | n=>n,fun | 0=>0 | 3=>3 | 4=>4 | 5=>5 | 21=>21 | 25=>158 | 30=>43 | 33=>175 | 66=>189 | 68=>191 | 69=>192 | n=>n,fun | 2=>1 | 3=>2 | n=>n⟩
theorem Tryz.lays732:Go.Proofs.Lays7.n32 Tryz.prog Tryz.lays732_ren:={
 mixed:=by kernel_rfl
 f32:=Tryz.func146.trans (congrArg some (by kernel_rfl))
 f49:=Tryz.func189.trans (congrArg some (by kernel_rfl))
 t0:=by kernel_rfl
 a0:=fun w=>by first | exact Tryz.isAgg0 w | go_simp
 z0:=fun w=>by first | exact Tryz.sizeOf0 w | go_simp
 v0:=fun w=>by first | exact Tryz.zeroValue0 w | go_simp
 i0:=by kernel_rfl
 t3:=by kernel_rfl
 a3:=fun w=>by first | exact Tryz.isAgg3 w | go_simp
 z3:=fun w=>by first | exact Tryz.sizeOf3 w | go_simp
 v3:=fun w=>by first | exact Tryz.zeroValue3 w | go_simp
 i3:=by kernel_rfl
 t4:=by kernel_rfl
 a4:=fun w=>by first | exact Tryz.isAgg4 w | go_simp
 z4:=fun w=>by first | exact Tryz.sizeOf4 w | go_simp
 v4:=fun w=>by first | exact Tryz.zeroValue4 w | go_simp
 i4:=by kernel_rfl
 t5:=by kernel_rfl
 a5:=fun w=>by first | exact Tryz.isAgg5 w | go_simp
 z5:=fun w=>by first | exact Tryz.sizeOf5 w | go_simp
 v5:=fun w=>by first | exact Tryz.zeroValue5 w | go_simp
 i5:=by kernel_rfl
 t21:=by kernel_rfl
 a21:=fun w=>by first | exact Tryz.isAgg21 w | go_simp
 z21:=fun w=>by first | exact Tryz.sizeOf21 w | go_simp
 v21:=fun w=>by first | exact Tryz.zeroValue21 w | go_simp
 i21:=by kernel_rfl
 t25:=by kernel_rfl
 a25:=fun w=>by first | exact Tryz.isAgg158 w | go_simp
 z25:=fun w=>by first | exact Tryz.sizeOf158 w | go_simp
 v25:=fun w=>by first | exact Tryz.zeroValue158 w | go_simp
 i25:=by kernel_rfl
 t30:=by kernel_rfl
 a30:=fun w=>by first | exact Tryz.isAgg43 w | go_simp
 z30:=fun w=>by first | exact Tryz.sizeOf43 w | go_simp
 v30:=fun w=>by first | exact Tryz.zeroValue43 w | go_simp
 i30:=by kernel_rfl
 t33:=by kernel_rfl
 a33:=fun w=>by first | exact Tryz.isAgg175 w | go_simp
 z33:=fun w=>by first | exact Tryz.sizeOf175 w | go_simp
 v33:=fun w=>by first | exact Tryz.zeroValue175 w | go_simp
 i33:=by kernel_rfl
 t66:=by kernel_rfl
 a66:=fun w=>by first | exact Tryz.isAgg189 w | go_simp
 z66:=fun w=>by first | exact Tryz.sizeOf189 w | go_simp
 t68:=by kernel_rfl
 a68:=fun w=>by first | exact Tryz.isAgg191 w | go_simp
 z68:=fun w=>by first | exact Tryz.sizeOf191 w | go_simp
 v68:=fun w=>by first | exact Tryz.zeroValue191 w | go_simp
 i68:=by kernel_rfl
 t69:=by kernel_rfl
 a69:=fun w=>by first | exact Tryz.isAgg192 w | go_simp
 z69:=fun w=>by first | exact Tryz.sizeOf192 w | go_simp
 v69:=fun w=>by first | exact Tryz.zeroValue192 w | go_simp
 i69:=by kernel_rfl
 g2:=by kernel_rfl
 g3:=by kernel_rfl}
def Tabs (w:World):Prop:=Lib.Utf8Tabs 1 2 w
theorem get_bs (l:List UInt8) (j:Nat) (h:j< l.length):(bs l).get! j=l[j]:=by
 have h2:j< (bs l).data.size:=by simpa [bs]using h
 have e:(bs l).get! j=(bs l).data[j]! :=rfl
 rw[e,getElem!_pos (bs l).data j h2];rfl
theorem decode_any (l:List UInt8) (p:Nat→Prop) (b off cap:Nat) (w:World) (hT:Tabs w) (h:Rep w p (.slice (some ⟨b,off,none⟩) l.length cap) (numsD .u8 (byI l))):
  Calls Tryz.prog 146 #[.slice (some ⟨b,off,none⟩) l.length cap] w fun e w'=>e= .returned (.tuple #[.int .i32 ((Lib.decodeGoB (bs l)).1:Nat),.int .i64 ((Lib.decodeGoB (bs l)).2:Nat)])∧Ext w w':=by
 have h1:=Any7.utf8_DecodeRune Tryz.lays732 (bs l) b off cap w hT fun j hj=>by
  rw[bs_size]at hj
  obtain⟨b',o',e,_,hc⟩:=by_at h j hj
  cases e
  rw[hc,get_bs l j hj]
 rw[bs_size]at h1
 exact h1
theorem charZ_R (n:Nat):charZ (n:Int)=charR n:=by
 unfold charZ charR
 rw[Bool.eq_iff_iff]
 by_cases h1:n=9∨n=10∨n=13
 ·
  rw[if_pos (by omega)]
  simp only[Bool.or_eq_true,decide_eq_true_eq,true_iff]
  exact .inl (by omega)
 ·
  rw[if_neg (by omega)]
  by_cases h2:n< 32∨1114111< n
  ·
   rw[if_pos (by omega)]
   simp only[Bool.or_eq_true,Bool.and_eq_true,decide_eq_true_eq]
   constructor
   ·
    intro h;cases h
   ·
    intro h;omega
  ·
   rw[if_neg (by omega)]
   simp only[Bool.or_eq_true,Bool.and_eq_true,decide_eq_true_eq]
   omega
theorem inZ_R (n:Nat):∀l:List (Nat×Nat),inZ (n:Int) (l.map fun p=>((p.1:Int),(p.2:Int)))=inR n l
 | []=>rfl
 | p::l=>by
  have ih:=inZ_R n l
  unfold inZ inR at ih⊢
  rw[List.map_cons,List.any_cons,List.any_cons,ih]
  congr 1
  rw[Bool.eq_iff_iff];simp only[Bool.and_eq_true,decide_eq_true_eq];omega
theorem beginsR_Z (n:Nat):inZ (n:Int) beginsL=beginsR n:=inZ_R n [(65,90),(95,95),(97,122),(192,214),(216,246),(248,767),(880,893),(895,8191),(8204,8205),(8304,8591),(11264,12271),(12289,55295),(63744,64975),(65008,65533),(65536,983039)]
theorem goesR_Z (n:Nat):(inZ (n:Int) beginsL || inZ (n:Int) goesOnL)=goesR n:=by
 rw[beginsR_Z,show inZ (n:Int) goesOnL=_ from inZ_R n [(45,46),(48,57),(183,183),(768,879),(8255,8256)]];rfl
theorem decN_le (n b0 b1 b2 b3:Nat) (h:0< n):(Lib.decodeN n b0 b1 b2 b3).2≤n:=by
 unfold Lib.decodeN
 repeat' split
 all_goals (simp only;omega)
theorem decB_le (l:List UInt8):(Lib.decodeGoB (bs l)).2≤l.length:=by
 unfold Lib.decodeGoB
 split
 ·
  exact Nat.zero_le _
 ·
  rename_i h
  rw[bs_size]at h
  rw[Lib.decode_at]
  have:=decN_le ((bs l).size - 0) ((bs l).get! 0).toNat ((bs l).get! (0+1)).toNat ((bs l).get! (0+2)).toNat ((bs l).get! (0+3)).toNat (by rw[bs_size];omega)
  rw[bs_size]at this⊢
  exact this
theorem decB_ascii (c:UInt8) (r:List UInt8) (h:c< 128):Lib.decodeGoB (bs (c::r))=(c.toNat,1):=by
 have h2:c.toNat< 128:=h
 unfold Lib.decodeGoB
 rw[if_neg (by rw[bs_size];simp),Lib.decode_at,get_bs (c::r) 0 (by simp)]
 unfold Lib.decodeN
 rw[if_pos (show(c::r)[0].toNat< 128 from h2)];rfl
theorem nextS_eq (l:List UInt8) (h:l≠ []):nextS l=if(Lib.decodeGoB (bs l)).1=65533∧(Lib.decodeGoB (bs l)).2< 2 then(0,0)else if charR (Lib.decodeGoB (bs l)).1=true then Lib.decodeGoB (bs l)else(0,0):=by
 cases l with
 | nil=>exact absurd rfl h
 | cons c r=>
  rw[nextS]
  split
  ·
   rename_i hc
   have h2:c.toNat< 128:=hc
   rw[decB_ascii c r hc]
   have hn:¬(c.toNat=65533∧1< 2):=fun h=>by have:=h.1;omega
   show(if charR c.toNat=true then(c.toNat,1)else(0,0))=if c.toNat=65533∧1< 2 then(0,0)else if charR c.toNat=true then(c.toNat,1)else(0,0)
   rw[if_neg hn]
  ·
   by_cases h1:(Lib.decodeGoB (bs (c::r))).1=65533∧(Lib.decodeGoB (bs (c::r))).2< 2
   ·
    rw[if_pos h1,if_pos (by simp[h1.1,h1.2])]
   ·
    rw[if_neg h1]
    have h1':(decide ((Lib.decodeGoB (bs (c::r))).1=65533) && decide ((Lib.decodeGoB (bs (c::r))).2< 2))=false:=by
     rw[Bool.and_eq_false_iff]
     by_cases hq:(Lib.decodeGoB (bs (c::r))).1=65533
     ·
      exact .inr (decide_eq_false fun h=>h1 ⟨hq,h⟩)
     ·
      exact .inl (decide_eq_false hq)
    rw[h1',Bool.false_or]
    cases charR (Lib.decodeGoB (bs (c::r))).1<;> rfl
theorem next_le (l:List UInt8):(nextS l).2≤l.length:=by
 by_cases h:l= []
 ·
  subst h;exact Nat.le_refl _
 ·
  rw[nextS_eq l h]
  have:=decB_le l
  split
  ·
   exact Nat.zero_le _
  ·
   split
   ·
    exact this
   ·
    exact Nat.zero_le _
theorem next_any (l:List UInt8) (i:Nat) (hi:i< l.length) (hl:l.length≤16777216) (p:Nat→Prop) (v:Value) (w:World) (hT:∀W,Ext w W→Tabs W) (h:Rep w p v (numsD .u8 (byI l))):
  Calls Tryz.prog 102 #[v,.int .i64 i] w fun e w'=>e= .returned (.tuple #[.int .i32 ((nextS (l.drop i)).1:Nat),.int .i64 ((nextS (l.drop i)).2:Nat)])∧Ext w w':=by
 obtain⟨a,c,rfl,hc1,hc2⟩:=by_count h
 obtain⟨b,off,rfl,lb,_⟩:=by_at h i hi
 have hd:=by_drop h i (by omega) rfl hc2 hc1
 have hlen:(l.drop i).length=l.length - i:=List.length_drop
 rw[←hlen]at hd
 have HD:=Lh fun W hX=>decode_any (l.drop i) p b (off+i) (c - i) W (hT W hX) (hd.ext hX)
 rw[nextS_eq (l.drop i) (fun e=>by rw[e]at hlen;simp at hlen;omega)]
 rw[hlen]at HD
 obtain⟨r,hr⟩:∃r,(Lib.decodeGoB (bs (l.drop i))).1=r:=⟨_,rfl⟩
 obtain⟨n,hn⟩:∃n,(Lib.decodeGoB (bs (l.drop i))).2=n:=⟨_,rfl⟩
 have hp:Lib.decodeGoB (bs (l.drop i))=(r,n):=by rw[←hr,←hn]
 rw[hp]at HD⊢
 dsimp only at HD⊢
 have HC:=Lh fun W=>Char_any (r:Int) W
 rw[charZ_R]at HC
 obtain⟨R,hR⟩:∃R,(if r=65533∧n< 2 then((0:Nat),(0:Nat))else if charR r=true then(r,n)else(0,0))=R:=⟨_,rfl⟩
 rw[hR]
 have HR:=Lh hR
 have hi0:¬(i:Int)< 0:=by omega
 have hiI:(i:Int)< (l.length:Int):=by omega
 have hiJ:¬(l.length:Int)≤(i:Int):=by omega
 have hiK:(i:Int)≤(l.length:Int):=by omega
 have hiC:¬c≤i:=by omega
 have hiD:¬c=i:=by omega
 clear hd hr hn hp hR hT h hlen
 go_enter Tryz.func102,Tryz.ntmps102
 go_wp2_with fail
 refine(HD.out _ (Ext.refl _)).mono ?_
 rintro e w1 ⟨rfl,hX⟩
 clear HD
 by_cases h1:r=65533
 ·
  by_cases h2:n< 2
  ·
   obtain rfl:(0,0)=R:=by rw[←HR.out,if_pos ⟨h1,h2⟩]
   subst h1
   have h2I:(n:Int)< 2:=by omega
   go_wp2_with fail
   go_ret2
   exact⟨rfl,hX⟩
  ·
   replace HR:=Lh ((if_neg (fun h=>h2 h.2)).symm.trans HR.out)
   subst h1
   have h2I:¬(n:Int)< 2:=by omega
   go_wp2_with fail
   refine(HC.out _).mono ?_
   rintro e w2 ⟨rfl,rfl⟩
   have e2:charR 65533=true:=by decide
   rw[e2]at HR⊢
   obtain rfl:(65533,n)=R:=HR.out
   go_wp2_with fail
   go_ret2
   exact⟨rfl,hX⟩
 ·
  replace HR:=Lh ((if_neg (fun h=>h1 h.1)).symm.trans HR.out)
  have q1:((r:Int)==65533)=false:=by rw[beq_eq_false_iff_ne];omega
  clear h1
  go_wp2_with fail
  refine(HC.out _).mono ?_
  rintro e w2 ⟨rfl,rfl⟩
  obtain⟨B,hB⟩:∃B,charR r=B:=⟨_,rfl⟩
  rw[hB]at HR⊢
  clear hB HC
  cases B with
  | true=>
   obtain rfl:(r,n)=R:=HR.out
   go_wp2_with fail
   go_ret2
   exact⟨rfl,hX⟩
  | false=>
   obtain rfl:(0,0)=R:=HR.out
   go_wp2_with fail
   go_ret2
   exact⟨rfl,hX⟩
theorem bad_go (f i:Nat) (l:List UInt8) (hi:i< l.length):badGo (f+1) i (l.drop i)=if(nextS (l.drop i)).2=0 then(i:Int)else badGo f (i+(nextS (l.drop i)).2) (l.drop (i+(nextS (l.drop i)).2)):=by
 rw[badGo,if_neg (fun e=>by have:=congrArg List.length e;rw[List.length_drop]at this;simp at this;omega),List.drop_drop]
theorem bad_any (l:List UInt8) (hl:l.length≤16777216) (p:Nat→Prop) (v:Value) (w:World) (hT:∀W,Ext w W→Tabs W) (h:Rep w p v (numsD .u8 (byI l))):
  Calls Tryz.prog 63 #[v] w fun e w'=>e= .returned (.int .i64 (badS l))∧Ext w w':=by
 obtain⟨a,c,rfl,hc1,hc2⟩:=by_count h
 obtain⟨R,hR⟩:∃R,badS l=R:=⟨_,rfl⟩
 rw[hR]
 have HR:=Lh (show l.length - 0≤l.length∧badGo l.length 0 (l.drop 0)=R from⟨Nat.sub_le _ _,hR⟩)
 have HH:=Lh (And.intro hT h)
 clear hR hT h
 go_enter Tryz.func63,Tryz.ntmps63
 go_wp2_with fail
 go_loopw [3,4,5] (fun t _ _ wr=>∃i f:Nat,t= .int .i64 i∧i≤l.length∧Hid (Ext w wr)∧Hid (l.length - i≤f∧badGo f i (l.drop i)=R)) (fun t _ _ _=>downQ l.length t)
 case atStart=>exact⟨0,l.length,rfl,Nat.zero_le _,Lh (Ext.refl _),HR⟩
 case round=>
  obtain⟨i,f,rfl,hi,HX,HI⟩:=hrel
  by_cases hlt:i< l.length
  ·
   have hiI:(i:Int)< (l.length:Int):=by omega
   obtain⟨f',rfl⟩:∃f',f=f'+1:=⟨f - 1,by have:=HI.out.1;omega⟩
   have hb:=HI.out.2
   rw[bad_go f' i l hlt]at hb
   have hn:=next_le (l.drop i)
   rw[List.length_drop]at hn
   have HC:=Lh (next_any l i hlt hl p _ wr (fun W hW=>HH.out.1 W (HX.out.trans hW)) (HH.out.2.ext HX.out))
   obtain⟨r,hr⟩:∃r,(nextS (l.drop i)).1=r:=⟨_,rfl⟩
   obtain⟨n,hn'⟩:∃n,(nextS (l.drop i)).2=n:=⟨_,rfl⟩
   rw[hn']at hn hb HC
   rw[hr]at HC
   have HB:=Lh (And.intro HI.out.1 hb)
   clear hr hn' hb HI
   go_wp2_with fail
   refine HC.out.mono ?_
   rintro e w1 ⟨rfl,hX1⟩
   replace HX:=Lh (HX.out.trans hX1)
   clear HC
   by_cases h0:n=0
   ·
    have q0:((n:Int)==0)=true:=by rw[beq_iff_eq];omega
    have HN:Hid ((i:Int)=R):=Lh (by rw[←HB.out.2,if_pos h0])
    clear h0
    go_wp2_with fail
    go_ret
    obtain rfl:=HN.out
    exact⟨rfl,HX.out⟩
   ·
    have q0:((n:Int)==0)=false:=by rw[beq_eq_false_iff_ne];omega
    have HN:Hid (badGo f' (i+n) (l.drop (i+n))=R):=Lh (by rw[←HB.out.2,if_neg h0])
    go_wp2_with fail
    go_roundw
    case rel=>exact⟨i+n,f',by go_num,by omega,HX,Lh ⟨by have:=HB.out.1;omega,HN.out⟩⟩
    case measure=>simp only[downQ];omega
  ·
   have hiI:¬(i:Int)< (l.length:Int):=by omega
   have HN:Hid (R= -1):=Lh (by
    have:=HI.out.2
    rw[List.drop_of_length_le (by omega)]at this
    rw[←this]
    cases f<;> rfl)
   go_wp2_with fail
   go_ret
   obtain rfl:=HN.out
   exact⟨rfl,HX.out⟩
def goE:Nat→Bool→Bytes→Bool
 | 0,_,_=>true
 | f+1,first,l=>if l= []then true else if(first && !beginsR (Lib.decodeL l).1) || !goesR (Lib.decodeL l).1 then false else goE f false (l.drop (Lib.decodeL l).2)
def nameE (l:Bytes):Bool:=Lib.validD l && (goE l.length true l && decide (l≠ []))
theorem goE_at (f:Nat) (first:Bool) (l:Bytes) (h:l≠ []):goE (f+1) first l=if(first && !beginsR (Lib.decodeL l).1) || !goesR (Lib.decodeL l).1 then false else goE f false (l.drop (Lib.decodeL l).2):=by
 rw[goE,if_neg h]
def Tryz.lays196_ren:Go.Shelf.Ren:=⟨fun | 196=>74 | 259=>117 | n=>n,fun | 0=>0 | 3=>3 | 4=>4 | 5=>5 | 9=>9 | 12=>12 | 46=>158 | 53=>216 | 119=>189 | 138=>191 | 139=>192 | n=>n,fun | 3=>1 | 4=>2 | n=>n⟩
theorem Tryz.lays196:Go.Proofs.Lays.n196 Tryz.prog Tryz.lays196_ren:={
 mixed:=by kernel_rfl
 f196:=Tryz.func74.trans (congrArg some (by kernel_rfl))
 f259:=Tryz.func117.trans (congrArg some (by kernel_rfl))
 t0:=by kernel_rfl
 a0:=fun w=>by first | exact Tryz.isAgg0 w | go_simp
 z0:=fun w=>by first | exact Tryz.sizeOf0 w | go_simp
 v0:=fun w=>by first | exact Tryz.zeroValue0 w | go_simp
 t3:=by kernel_rfl
 a3:=fun w=>by first | exact Tryz.isAgg3 w | go_simp
 z3:=fun w=>by first | exact Tryz.sizeOf3 w | go_simp
 v3:=fun w=>by first | exact Tryz.zeroValue3 w | go_simp
 t4:=by kernel_rfl
 a4:=fun w=>by first | exact Tryz.isAgg4 w | go_simp
 z4:=fun w=>by first | exact Tryz.sizeOf4 w | go_simp
 v4:=fun w=>by first | exact Tryz.zeroValue4 w | go_simp
 t5:=by kernel_rfl
 a5:=fun w=>by first | exact Tryz.isAgg5 w | go_simp
 z5:=fun w=>by first | exact Tryz.sizeOf5 w | go_simp
 v5:=fun w=>by first | exact Tryz.zeroValue5 w | go_simp
 t9:=by kernel_rfl
 a9:=fun w=>by first | exact Tryz.isAgg9 w | go_simp
 z9:=fun w=>by first | exact Tryz.sizeOf9 w | go_simp
 v9:=fun w=>by first | exact Tryz.zeroValue9 w | go_simp
 t12:=by kernel_rfl
 a12:=fun w=>by first | exact Tryz.isAgg12 w | go_simp
 z12:=fun w=>by first | exact Tryz.sizeOf12 w | go_simp
 v12:=fun w=>by first | exact Tryz.zeroValue12 w | go_simp
 t46:=by kernel_rfl
 a46:=fun w=>by first | exact Tryz.isAgg158 w | go_simp
 z46:=fun w=>by first | exact Tryz.sizeOf158 w | go_simp
 v46:=fun w=>by first | exact Tryz.zeroValue158 w | go_simp
 t53:=by kernel_rfl
 a53:=fun w=>by first | exact Tryz.isAgg216 w | go_simp
 z53:=fun w=>by first | exact Tryz.sizeOf216 w | go_simp
 v53:=fun w=>by first | exact Tryz.zeroValue216 w | go_simp
 t119:=by kernel_rfl
 a119:=fun w=>by first | exact Tryz.isAgg189 w | go_simp
 z119:=fun w=>by first | exact Tryz.sizeOf189 w | go_simp
 t138:=by kernel_rfl
 a138:=fun w=>by first | exact Tryz.isAgg191 w | go_simp
 z138:=fun w=>by first | exact Tryz.sizeOf191 w | go_simp
 v138:=fun w=>by first | exact Tryz.zeroValue191 w | go_simp
 t139:=by kernel_rfl
 a139:=fun w=>by first | exact Tryz.isAgg192 w | go_simp
 z139:=fun w=>by first | exact Tryz.sizeOf192 w | go_simp
 v139:=fun w=>by first | exact Tryz.zeroValue192 w | go_simp
 g3:=by kernel_rfl
 g4:=by kernel_rfl}
theorem valid_any (s:Bytes) (hs:s.length≤16777216) (w:World) (hT:Tabs w):
  Calls Tryz.prog 74 #[.string (bs s)] w fun e w'=>e= .returned (.bool (Lib.validD s))∧Ext w w':=by
 have:=Any.utf8_ValidString Tryz.lays196 (bs s) w (by rw[bs_size];omega) hT
 rw[show(bs s).data.toList=s from by simp[bs]]at this
 exact this
theorem name_any (s:Bytes) (hs:s.length≤16777216) (w:World) (hT:∀W,Ext w W→Tabs W):
  Calls Tryz.prog 35 #[.string (bs s)] w fun e w'=>e= .returned (.bool (nameE s))∧Ext w w':=by
 have HV:=Lh (valid_any s hs w (hT w (Ext.refl _)))
 obtain⟨R,hR⟩:∃R,nameE s=R:=⟨_,rfl⟩
 rw[hR]
 unfold nameE at hR
 obtain⟨V,hV⟩:∃V,Lib.validD s=V:=⟨_,rfl⟩
 rw[hV]at HV hR
 obtain⟨G,hG⟩:∃G,goE s.length true s=G:=⟨_,rfl⟩
 rw[hG]at hR
 have HR:=Lh hR
 have HG:Hid (goE s.length (decide (0=0)) (s.drop 0)=G∧s.length - 0≤s.length):=Lh ⟨by simpa using hG,by omega⟩
 clear hR hV hG hT
 go_enter Tryz.func35,Tryz.ntmps35
 go_wp2_with fail
 refine HV.out.mono ?_
 rintro e w1 ⟨rfl,hX1⟩
 clear HV
 cases V with
 | false=>
  obtain rfl:false=R:=HR.out
  go_wp2_with fail
  go_ret
  exact⟨rfl,hX1⟩
 | true=>
  have hz1:=hX1.size
  go_wp2_with fail
  have hit0:(w1.iter (bs s) 0).heap[w1.heap.size]? =some (.stringIter (bs s) 0):=World.iter_heap _ _ _
  have hE0:Ext w (w1.iter (bs s) 0):=hX1.alloc _
  obtain⟨k,hk⟩:∃k,w1.heap.size=k:=⟨_,rfl⟩
  rw[hk]at hit0 hz1⊢
  go_loopw [3,4] (fun _ _ wr=>∃pos f:Nat,pos≤s.length∧wr.heap[k]? =some (.stringIter (bs s) pos)∧Hid (Ext w wr)∧Hid (goE f (decide (pos=0)) (s.drop pos)=G∧s.length - pos≤f)) (fun _ _ wr=>s.length - wr.iterPos k)
  case atStart=>exact⟨0,s.length,Nat.zero_le _,hit0,Lh hE0,HG⟩
  case round=>
   clear HG hit0 hE0
   obtain⟨pos,f,hp,hit,HX,HI⟩:=hrel
   have hip:wr.iterPos k=pos:=by unfold World.iterPos;rw[hit]
   by_cases hlt:pos< s.length
   ·
    have hlb:pos< (bs s).size:=by rw[bs_size];exact hlt
    have hnx:∀ty,(Instr.next (.pointer (some ⟨k,0,none⟩)) true ty).run Tryz.prog wr=_:=fun ty=>Lib.run_next_any_at wr k (bs s) pos ty hit hlb
    have hne:s.drop pos≠ []:=fun h0=>by have:=congrArg List.length h0;rw[List.length_drop]at this;simp at this;omega
    have hdl:=Lib.decodeL_le (s.drop pos) hne
    have hdw:=Lib.decodeL_width (s.drop pos)
    have hdr:=Lib.decodeL_rune (s.drop pos)
    rw[List.length_drop]at hdl
    have hdd:Utf8.decode (bs s) pos=Lib.decodeL (s.drop pos):=(Lib.decodeL_drop (bs s) pos).symm
    rw[hdd]at hnx
    obtain⟨f',rfl⟩:∃f',f=f'+1:=⟨f - 1,by have:=HI.out.2;omega⟩
    have hg:=HI.out.1
    rw[goE_at f' _ _ hne,List.drop_drop]at hg
    obtain⟨r,hr⟩:∃r,(Lib.decodeL (s.drop pos)).1=r:=⟨_,rfl⟩
    obtain⟨n,hn⟩:∃n,(Lib.decodeL (s.drop pos)).2=n:=⟨_,rfl⟩
    rw[hr,hn]at hnx
    rw[hr,hn]at hg
    rw[hn]at hdl hdw
    rw[hr]at hdr
    have hit2:=Lib.iterAt_heap wr k (bs s) pos (pos+n) hit
    have hX2:Ext w (wr.iterAt k (bs s) (pos+n)):=Lib.below_iterAt HX.out hz1 (bs s) (pos+n)
    obtain⟨W,hW⟩:∃W,wr.iterAt k (bs s) (pos+n)=W:=⟨_,rfl⟩
    rw[hW]at hnx hit2 hX2
    have HB:=Lh (Begins_any (r:Int) W)
    have HGO:=Lh fun W' (_:Ext W W')=>GoesOn_any (r:Int) W'
    rw[beginsR_Z]at HB
    rw[goesR_Z]at HGO
    obtain⟨b1,hb1⟩:∃b,beginsR r=b:=⟨_,rfl⟩
    obtain⟨b2,hb2⟩:∃b,goesR r=b:=⟨_,rfl⟩
    rw[hb1]at HB hg
    rw[hb2]at HGO hg
    have HIT:=Lh hit2
    have HIP:=Lh hip
    have HX2:=Lh hX2
    have HH:=Lh (And.intro hg HI.out.2)
    clear hr hn hb1 hb2 hW hit2 hX2 hg HI HX hdd hlb hit hip hne
    by_cases hp0:pos=0
    ·
     have q0:((pos:Int)==0)=true:=by rw[beq_iff_eq];omega
     replace HH:=Lh (show _∧_ from⟨by have:=HH.out.1;rwa [decide_eq_true hp0,Bool.true_and]at this,HH.out.2⟩)
     clear hp0
     go_wp2_with fail
     refine HB.out.mono ?_
     rintro e w3 ⟨rfl,hX3⟩
     clear HB
     cases b1 with
     | false=>
      obtain rfl:false=G:=HH.out.1
      obtain rfl:false=R:=HR.out
      go_wp2_with fail
      go_ret
      exact⟨rfl,HX2.out.trans hX3⟩
     | true=>
      go_wp2_with fail
      refine(HGO.out _ hX3).mono ?_
      rintro e w4 ⟨rfl,hX4⟩
      clear HGO
      cases b2 with
      | false=>
       obtain rfl:false=G:=HH.out.1
       obtain rfl:false=R:=HR.out
       go_wp2_with fail
       go_ret
       exact⟨rfl,(HX2.out.trans hX3).trans hX4⟩
      | true=>
       have hit4:w4.heap[k]? =some (.stringIter (bs s) (pos+n)):=(Below.block (hX3.trans hX4) k ((Array.getElem?_eq_some_iff.1 HIT.out).1)).trans HIT.out
       go_wp2_with fail
       go_roundw
       case rel=>exact⟨pos+n,f',by omega,hit4,Lh ((HX2.out.trans hX3).trans hX4),Lh ⟨by rw[decide_eq_false (by omega)];exact HH.out.1,by have:=HH.out.2;omega⟩⟩
       case measure=>rw[HIP.out];unfold World.iterPos;rw[hit4];simp only;omega
    ·
     have q0:((pos:Int)==0)=false:=by rw[beq_eq_false_iff_ne];omega
     replace HH:=Lh (show _∧_ from⟨by have:=HH.out.1;rwa [decide_eq_false hp0,Bool.false_and,Bool.false_or]at this,HH.out.2⟩)
     clear hp0 HB
     go_wp2_with fail
     refine(HGO.out _ (Ext.refl _)).mono ?_
     rintro e w4 ⟨rfl,hX4⟩
     clear HGO
     cases b2 with
     | false=>
      obtain rfl:false=G:=HH.out.1
      obtain rfl:false=R:=HR.out
      go_wp2_with fail
      go_ret
      exact⟨rfl,HX2.out.trans hX4⟩
     | true=>
      have hit4:w4.heap[k]? =some (.stringIter (bs s) (pos+n)):=(Below.block hX4 k ((Array.getElem?_eq_some_iff.1 HIT.out).1)).trans HIT.out
      go_wp2_with fail
      go_roundw
      case rel=>exact⟨pos+n,f',by omega,hit4,Lh (HX2.out.trans hX4),Lh ⟨by rw[decide_eq_false (by omega)];exact HH.out.1,by have:=HH.out.2;omega⟩⟩
      case measure=>rw[HIP.out];unfold World.iterPos;rw[hit4];simp only;omega
   ·
    have hlb:¬pos< (bs s).size:=by rw[bs_size];exact hlt
    have hnx:∀ty,(Instr.next (.pointer (some ⟨k,0,none⟩)) true ty).run Tryz.prog wr=_:=fun ty=>Lib.run_next_end_at wr k (bs s) pos ty hit hlb
    have hpe:pos=s.length:=by omega
    have HN:Hid (decide (s≠ [])=R):=Lh (by
     have hG:true=G:=by
      rw[←HI.out.1,hpe,List.drop_length]
      cases f<;> simp[goE]
     rw[←HR.out,←hG];simp)
    have HXX:=Lh HX.out
    clear HR HI HX hit hip hlt hlb hpe hp
    by_cases h0:s= []
    ·
     subst h0
     have q1:(bs []).toList.isEmpty=true:=by rw[bs_toList];rfl
     obtain rfl:false=R:=by rw[←HN.out];simp
     go_wp2_with fail
     go_ret
     exact⟨rfl,HXX.out⟩
    ·
     have q1:(bs s).toList.isEmpty=false:=by rw[bs_toList];cases s with | nil=>exact absurd rfl h0 | cons _ _=>rfl
     obtain rfl:true=R:=by rw[←HN.out];simp[h0]
     clear h0
     go_wp2_with fail
     go_ret
     exact⟨rfl,HXX.out⟩
open Go.Maps (Keyed)
open Go.WideShapes
open Go.WideElems (rg)
abbrev HV (v:Value):Option (DataW Value×List MemPlace):=some (.held v,[])
def lkE (P:Program) (k:TypeId) (v:Value):Lit:=(keyOf P k v).getD (.bool false)
def imgE (P:Program) (k:TypeId) (x:Value×Value):Lit×DataW Value:=(lkE P k x.1,.held x.2)
def KeysOk (P:Program) (k:TypeId) (E:List (Value×Value)):Prop:=(∀x∈E,∃l,keyOf P k x.1=some l)∧E.Pairwise fun x y=>x.1≠y.1
theorem KeysOk.perm {P:Program} {k:TypeId} {E E':List (Value×Value)} (h:KeysOk P k E) (hp:E.Perm E'):KeysOk P k E':=
 ⟨fun x hx=>h.1 x (hp.mem_iff.2 hx),(hp.pairwise_iff fun {a b} (h:a.1≠b.1)=>h.symm).1 h.2⟩
theorem lkE_of {P:Program} {k:TypeId} {v:Value} {l:Lit} (h:keyOf P k v=some l):lkE P k v=l:=by unfold lkE;rw[h];rfl
theorem lkE_inj {P:Program} {k:TypeId} (K:Keyed P k) {a b:Value} {l m:Lit} (ha:keyOf P k a=some l) (hb:keyOf P k b=some m) (h:lkE P k a=lkE P k b):a=b:=by
 rw[lkE_of ha,lkE_of hb]at h
 subst h
 exact K.inj ha hb
def MapE (P:Program) (k:TypeId) (w:World) (b:Nat) (E:List (Value×Value)):Prop:=
 ∃es,w.ownsMap P k HV b E.length (.map es)∧es.Perm (E.map (imgE P k))∧KeysOk P k E
variable {P:Program} {k e t:TypeId} {w:World} {b:Nat} {E:List (Value×Value)}
theorem MapE.block {w':World} (h:MapE P k w b E) (hb:w'.heap[b]? =w.heap[b]?):MapE P k w' b E:=by
 obtain⟨es,⟨ms,clock,h0,h1,h2,h3⟩,h4,h5⟩:=h
 exact⟨es,⟨ms,clock,hb.trans h0,h1,h2,h3⟩,h4,h5⟩
theorem MapE.lt (h:MapE P k w b E):b< w.heap.size:=by
 obtain⟨es,h1,_⟩:=h;exact h1.lt
theorem MapE.keys (h:MapE P k w b E):KeysOk P k E:=by obtain⟨es,_,_,h⟩:=h;exact h
theorem MapE.made (w:World) (P:Program) (k:TypeId):MapE P k (w.alloc (.map #[] 0)) w.heap.size []:=
 ⟨[],World.ownsMap_made w P k HV,List.Perm.refl _,fun x hx=>by(cases hx),List.Pairwise.nil⟩
theorem MapE.apart {es:List (Lit×DataW Value)} (K:Keyed P k) (hp:es.Perm (E.map (imgE P k))) (hE:KeysOk P k E):es.Pairwise (fun p q=>p.1≠q.1):=by
 refine(hp.pairwise_iff fun {a b} (h:a.1≠b.1)=>h.symm).2 (List.pairwise_map.2 (hE.2.imp_of_mem fun {x y} hx hy hne e=>hne ?_))
 obtain⟨l,hl⟩:=hE.1 x hx
 obtain⟨m,hm⟩:=hE.1 y hy
 exact lkE_inj K hl hm e
theorem MapE.look (h:MapE P k w b E) (K:Keyed P k) (ht:P.underlying t=some (.map k e)) {z:Value} (hz:(zeroValue e).run P w= .ok z w) {key v:Value} {kl:Lit} (hkey:keyOf P k key=some kl)
  (hv:(key,v)∈E∨(∀x∈E,x.1≠key)∧v=z):(Instr.lookup t (.map (some b)) key false).run P w= .ok v w:=by
 obtain⟨es,h1,h2,h3⟩:=h
 obtain⟨u,ps,hrun,hu⟩:=h1.lookup K ht hz (zd:= .held z) (zp:= []) rfl hkey
 have hu1:DataW.held u=(DataW.map es).atKey kl (.held z):=congrArg Prod.fst (Option.some.inj hu)
 have hap:=MapE.apart K h2 h3
 rcases hv with hv | ⟨hv,rfl⟩
 ·
  have hm:(kl,DataW.held v)∈es:=h2.mem_iff.2 (List.mem_map.2 ⟨_,hv,by unfold imgE;rw[lkE_of hkey]⟩)
  rw[WideAt.atKey_mem _ (K.key hkey) hap hm]at hu1
  cases hu1;exact hrun
 ·
  have hn:(DataW.map es).atKey kl (.held v)= .held v:=by
   refine WideAt.atKey_none _ fun p hp e=> ?_
   obtain⟨x,hx,rfl⟩:=List.mem_map.1 (h2.mem_iff.1 hp)
   obtain⟨l,hl⟩:=h3.1 x hx
   exact hv x hx (lkE_inj K hl hkey (by rw[lkE_of hkey];exact e))
  rw[hn]at hu1
  cases hu1;exact hrun
theorem MapE.store (h:MapE P k w b E) (K:Keyed P k) (ht:P.underlying t=some (.map k e)) {E0:List (Value×Value)} {key v:Value} {kl:Lit} (hkey:keyOf P k key=some kl) (hE:E.Perm E0∨∃v0,E.Perm ((key,v0)::E0))
  (h0:∀x∈E0,x.1≠key) (hn:E.length< maxLen):∃w',(Instr.mapUpdate t (.map (some b)) key v).run P w= .ok () w'∧MapE P k w' b ((key,v)::E0)∧w.grownBy w' (some b):=by
 obtain⟨es,h1,h2,h3⟩:=h
 obtain⟨w',hrun,hown,hg⟩:=h1.update K ht hn (val:=v) (d:= .held v) (ps:= []) hkey rfl
 have hsub:∀x∈E0,x∈E:=fun x hx=>by
  rcases hE with hE | ⟨v0,hE⟩
  ·
   exact hE.mem_iff.2 hx
  ·
   exact hE.mem_iff.2 (List.mem_cons_of_mem _ hx)
 have hk0:KeysOk P k ((key,v)::E0):=by
  refine⟨fun x hx=> ?_,List.pairwise_cons.2 ⟨fun x hx e=>h0 x hx e.symm,?_⟩⟩
  ·
   rcases List.mem_cons.1 hx with rfl | hx
   ·
    exact⟨kl,hkey⟩
   ·
    exact h3.1 x (hsub x hx)
  ·
   rcases hE with hE | ⟨v0,hE⟩
   ·
    exact(h3.perm hE).2
   ·
    exact(List.pairwise_cons.1 (h3.perm hE).2).2
 have hfil:(es.filter fun p=> !p.1.sameKey kl).Perm (E0.map (imgE P k)):=by
  have hk:WideAt.IsKeyLit kl:=K.key hkey
  have hkeep:∀L:List (Value×Value),(∀x∈L,x∈E0)→(L.map (imgE P k)).filter (fun p=> !p.1.sameKey kl)=L.map (imgE P k):=fun L hL=>List.filter_eq_self.2 fun p hp=>by
   obtain⟨x,hx,rfl⟩:=List.mem_map.1 hp
   obtain⟨l,hl⟩:=h3.1 x (hsub x (hL x hx))
   cases hs:(imgE P k x).1.sameKey kl with
   | false=>rfl
   | true=>
    refine absurd (lkE_inj K hl hkey ?_) (h0 x (hL x hx))
    rw[lkE_of hkey]
    exact WideAt.sameKey_eq hs
  rcases hE with hE | ⟨v0,hE⟩
  ·
   have:=(h2.trans (hE.map _)).filter (fun p=> !p.1.sameKey kl)
   rw[hkeep E0 fun _ h=>h]at this
   exact this
  ·
   have:=(h2.trans (hE.map _)).filter (fun p=> !p.1.sameKey kl)
   rw[List.map_cons,List.filter_cons_of_neg,hkeep E0 fun _ h=>h]at this
   ·
    exact this
   ·
    have e1:(imgE P k (key,v0)).1=kl:=lkE_of hkey
    rw[e1,WideAt.sameKey_self hk];simp
 refine⟨w',hrun,⟨DataW.insert (kl,.held v) (es.filter fun p=> !p.1.sameKey kl),?_,?_,hk0⟩,hg⟩
 ·
  have hs:=hown.size_le
  obtain⟨ms,clock,a1,a2,a3,a4⟩:=hown
  refine⟨ms,clock,a1,a2,?_,a4⟩
  have e1:Maps.size (DataW.map ((ms.toList.map (rg P k HV)).foldr DataW.insert []))=ms.size:=by simp[Maps.size,length_sorted]
  rw[←e1,←a4]
  show(DataW.insert (kl,.held v) (es.filter fun p=> !p.1.sameKey kl)).length≤_
  rw[length_insert,hfil.length_eq,List.length_map,List.length_cons]
  exact Nat.le_refl _
 ·
  refine(insert_perm _ _).trans ?_
  rw[List.map_cons]
  have e1:imgE P k (key,v)=(kl,.held v):=by unfold imgE;rw[lkE_of hkey]
  rw[e1]
  exact hfil.cons _
end Go.Proofs.YtcfibjiikhnfhaaGreatDoor
