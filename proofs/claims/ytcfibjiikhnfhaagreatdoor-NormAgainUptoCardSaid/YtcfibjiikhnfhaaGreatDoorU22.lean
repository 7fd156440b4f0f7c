/-
 The lexer's scan. Helper lemmas;no statement of the seat is proved here.
-/
import Derived.Test.YtcfibjiikhnfhaaGreatDoorU21
import Derived.Deep.QuietTactic
import Derived.BigQuiet
import Derived.Test.YtcfibjiikhnfhaaGreatDoorU11
import Derived.Test.YtcfibjiikhnfhaaGreatDoorU17
import Derived.Lib.OwnKind
namespace Go.Proofs.YtcfibjiikhnfhaaGreatDoor
open Go.RowKit
set_option maxHeartbeats 32000000
set_option maxRecDepth 100000
set_option linter.unusedVariables false
set_option linter.unusedSimpArgs false
def noPanic (Q:Exit→Act→World→Prop):Exit→Act→World→Prop:=fun e a w=>match e with
 | .panic _=>False
 | e=>Q e a w
theorem wp_noPanic {P:Program} {c:Code} {Q:Exit→Act→World→Prop} {a:Act} {w:World} (h:c.wp P (noPanic Q) a w):c.wp P Q a w:=
 Code.wp_mono (fun e a w h=>by cases e<;> first | exact h | exact False.elim h) h
theorem s1Toks:∀W,(sizeOf 67).run Tryz.prog W= .ok 1 W:=fun W=>by go_simp
theorem infoTok:(Tryz.prog.info? 75).map (fun i=>(i.zero,i.size,i.bytes))=some (some (.agg #[.int .i64 0,.int .i64 0,.string ⟨#[]⟩,.string ⟨#[]⟩,.slice none 0 0]),5,72):=by kernel_rfl
def TksR (s:Bytes):Nat→List TokX→Prop
 | p,[]=>p=s.length
 | p,t::ts=>∃e,TokR s p t e∧TksR s e ts
theorem EndR.gt {s:Bytes} {p:Nat} {nm:Bytes} {e:Nat} (h:EndR s p nm e):p< e∧e≤s.length∧nm.length≤s.length:=by
 obtain⟨n,b,rr,h1,h2,h3,h4,rfl,rfl⟩:=h
 have:=drop_lt h4
 rw[List.length_take,List.length_drop]
 omega
theorem TagR.fwd {s:Bytes} {p:Nat} {A:List Attr} {k:Int} {B:List Attr} {e:Nat} (h:TagR s p A k B e):p< e∧e≤s.length:=by
 induction h with
 | gt p A r h=>have:=drop_lt h;omega
 | sl p A r h=>
  have:=congrArg List.length h
  simp only[List.length_drop,List.length_cons]at this
  omega
 | at' p A k B e a p2 c r hb hc h1 h2 ha hn h ih=>
  obtain⟨n,b1,b2,qq,yy,r1,r2,_,_,_,_,_,_,_,_,_,rfl⟩:=ha
  omega
theorem TokR.gt {s:Bytes} {p:Nat} {t:TokX} {e:Nat} (h:TokR s p t e):p< e∧e≤s.length∧t.name.length≤s.length∧t.text.length≤s.length:=by
 rcases h with⟨y,v,r,h,h2,h3,rfl,rfl⟩ | ⟨nm,r,h,h2,rfl⟩ | ⟨c,r,n,k,B,h,h1,h2,h3,h4,h5,h6,rfl⟩ | ⟨tx,⟨r,h,h1,h2,rfl⟩,rfl⟩ | ⟨nm,tx,r,h,⟨n,b,r2,h1,h2,h3,h4,h5,h6⟩,rfl⟩
 ·
  have:=congrArg List.length h
  simp only[List.length_drop,List.length_append,List.length_cons]at this
  have:=List.length_pos_iff.2 h2
  have:=h3.len
  simp
  omega
 ·
  have:=h2.gt
  simp
  omega
 ·
  have:=h6.fwd
  simp only[List.length_take,List.length_drop,List.length_nil]
  omega
 ·
  have:=congrArg List.length h
  simp only[List.length_drop,List.length_append,List.length_cons]at this
  simp
  omega
 ·
  have hl:=nameS_lt (s:=s) (p:=p+2) (by omega)
  have hnl:nm.length≤s.length:=by rw[h3,List.length_take,List.length_drop];omega
  rcases h6 with⟨_,rfl,h7,rfl⟩ | ⟨_,h7,_,_,rfl⟩
  ·
   have:=congrArg List.length h7
   simp only[List.length_drop,List.length_cons]at this
   simp
   omega
  ·
   have:=congrArg List.length h7
   simp only[List.length_drop,List.length_append,List.length_cons]at this
   simp
   omega
section
variable {g:Nat} {W W' w w':World} {s:Bytes} {bv ov:Value}
theorem run_resscan {tmps:Array Value} {r0 r1:Nat} {x0 x1:Value} (ha:tmps.getD 2 undef= .pointer (some ⟨r0,0,none⟩)) (hb:tmps.getD 3 undef= .pointer (some ⟨r1,0,none⟩)) (h0:w.cell? ⟨r0,0,none⟩=some x0) (h1:w.cell? ⟨r1,0,none⟩=some x1) (fn:Func) (h:fn.results= #[.cell 2 33,.cell 3 3]):
  (results fn tmps).run Tryz.prog w= .ok (.tuple #[x0,x1]) w:=by
 rw[Array.getD_eq_getD_getElem?]at ha hb
 simp only[results,h]
 go_simp
theorem scan_any (h:SB g W s 0 bv (.slice none 0 0)) (hs:0< s.length) (hd:hasS s [60,63,120,109,108]=false) (ts:List TokX) (hT:TksR s 0 ts):
  Calls Tryz.prog 64 #[.pointer (some ⟨g,0,none⟩)] W fun ed w'=>ed= .returned (.tuple #[.int .i64 0,.int .i64 0])∧Exc g W w'∧∃ov,SB g w' s s.length bv ov∧Rep w' (fun b=>W.heap.size≤b) ov (tksD ts):=by
 have hmf:∀(fn:Fn) (first cap:Array Value) (w:World),(Instr.makeFunc fn first cap).run Tryz.prog w= .ok (.func fn first cap) w:=fun _ _ _ _=>rfl
 obtain⟨i0,hi,hz0,hz1,hz2⟩:=info_parts infoTok
 obtain⟨bb,off,bc,rfl,hcap,hbc⟩:=h.slice hs
 have hl:=h.hl
 have hlt:=h.lt
 obtain⟨w1,hw1⟩:∃X,W.alloc (.cells #[.int .i64 0] 33)=X:=⟨_,rfl⟩
 obtain⟨w2,hw2⟩:∃X,w1.alloc (.cells #[.int .i64 0] 3)=X:=⟨_,rfl⟩
 have hE1:Ext W w1:=by rw[←hw1];exact(Ext.refl W).alloc _
 have hE2:Ext w1 w2:=by rw[←hw2];exact(Ext.refl w1).alloc _
 obtain⟨r0,hr0⟩:∃r,W.heap.size=r:=⟨_,rfl⟩
 obtain⟨r1,hr1⟩:∃r,w1.heap.size=r:=⟨_,rfl⟩
 have hb1:w1.heap[r0]? =some (.cells #[.int .i64 0] 33 (0,0)):=by rw[←hw1,←hr0];exact Array.getElem?_push_size ..
 have hb2:w2.heap[r1]? =some (.cells #[.int .i64 0] 3 (0,0)):=by rw[←hw2,←hr1];exact Array.getElem?_push_size ..
 have hr01:r0< r1:=by rw[←hr1];exact blk_lt hb1
 have hr12:r1< w2.heap.size:=blk_lt hb2
 have hgr:g< r0:=by omega
 have HB2:=Lh (And.intro ((Below.block hE2 r0 (blk_lt hb1)).trans hb1) hb2)
 have HH:=Lh (And.intro h (Exc.of g (hE1.trans hE2)))
 have HD:=Lh (decl_any (h.ext (hE1.trans hE2)) hs (by rw[List.drop_zero];exact hd))
 have HT:=Lh hT
 have HE2:=Lh (hE1.trans hE2)
 clear h hd hT hE1 hE2 hb1 hb2
 go_enter_defers Tryz.func64,Tryz.ntmps64
 go_wp2_with fail
 try rw[hr0]
 try rw[hr1]
 refine HD.out.mono ?_
 rintro e w3 ⟨rfl,hE3⟩
 clear HD hw1 hw2
 obtain⟨base,hbase⟩:∃b,w3.heap.size=b:=⟨_,rfl⟩
 have hr1b:r1< base:=by have:=hE3.size;omega
 have hrr:=(Below.block hE3 r0 (blk_lt HB2.out.1)).trans HB2.out.1
 have hrr1:=(Below.block hE3 r1 (blk_lt HB2.out.2)).trans HB2.out.2
 have hX3:=HH.out.2.ext hE3
 have HS:Hid (w3.heap[r0]? =some (.cells #[.int .i64 0] 33 (0,0))∧w3.heap[r1]? =some (.cells #[.int .i64 0] 3 (0,0))∧SB g w3 s 0 (.slice (some ⟨bb,off,none⟩) s.length bc) (.slice none 0 0)∧Exc g W w3∧Own w3 (fun b=>base≤b) base 75 5 (.slice none 0 0) (([]:List TokX).length) (([]:List TokX).flatMap tkC)∧TksR s 0 ts∧ []++ts=ts):=
  Lh ⟨hrr,hrr1,HH.out.1.exc hX3 ((Below.block hE3 g (by omega)).trans (HH.out.1.ext HE2.out).blk) (Nat.zero_le _),hX3,Own.nil _ _ _ _ _,HT.out,rfl⟩
 have hb3:base≤w3.heap.size:=by omega
 clear hE3 hrr hrr1 hX3 hbase HB2 HT
 go_wp2_with fail
 go_loopw [] (fun wr=>∃(p:Nat) (done rest:List TokX) (ov:Value),base≤wr.heap.size∧done.length≤p∧Hid (wr.heap[r0]? =some (.cells #[.int .i64 0] 33 (0,0))∧wr.heap[r1]? =some (.cells #[.int .i64 0] 3 (0,0))∧SB g wr s p (.slice (some ⟨bb,off,none⟩) s.length bc) ov∧Exc g W wr∧Own wr (fun b=>base≤b) base 75 5 ov done.length (done.flatMap tkC)∧TksR s p rest∧done++rest=ts)) (fun wr=>atQ s.length g wr)
 case atStart=>exact⟨0,[],ts,_,hb3,Nat.le_refl _,HS⟩
 case round=>
  clear HS
  obtain⟨p,done,rest,ov,hbw,hdp,HI⟩:=hrel
  obtain⟨oa,oc,rfl,_,_⟩:=HI.out.2.2.2.2.1.form
  have hSr:=HI.out.2.2.1
  have c0:=hSr.c0;have c1:=hSr.c1
  have HMZ:=Lh (show atQ s.length g wr=s.length - p by simp only[atQ,c1];rfl)
  cases rest with
  | nil=>
   obtain rfl:p=s.length:=HI.out.2.2.2.2.2.1
   have hI:decide ((s.length:Int)< (s.length:Int))=false:=decide_eq_false (by omega)
   clear hSr
   go_wp2_with fail
   go_quiet (fail)
   obtain⟨w4,hw4⟩:∃w,wr.drewN nq=w:=⟨_,rfl⟩
   have Ehw4:Ext wr w4:=by rw[←hw4];exact(Ext.refl wr).drewN _
   rw[hw4]
   have hq0:=(Below.block Ehw4 r0 (blk_lt HI.out.1)).trans HI.out.1
   have hq1:=(Below.block Ehw4 r1 (blk_lt HI.out.2.1)).trans HI.out.2.1
   have k0:=blk_cell hq0 (k:=0) rfl;have j0:=blk_free (k:=0) hq0
   have k1:=blk_cell hq1 (k:=0) rfl;have j1:=blk_free (k:=0) hq1
   obtain⟨w5,hw5⟩:∃X,w4.setCell ⟨r0,0,none⟩ (.int .i64 0)=X:=⟨_,rfl⟩
   obtain⟨w6,hw6⟩:∃X,w5.setCell ⟨r1,0,none⟩ (.int .i64 0)=X:=⟨_,rfl⟩
   have h5:w5.heap[r0]? =some (.cells #[.int .i64 0] 33 (0,0)):=by rw[←hw5];exact blk_setc (k:=0) (u:= .int .i64 0) hq0
   have h51:w5.heap[r1]? =some (.cells #[.int .i64 0] 3 (0,0)):=by rw[←hw5];exact(Below.heap_setCell _ _ _ _ (by simp only;omega)).trans hq1
   have m1:=blk_cell h51 (k:=0) rfl;have n1:=blk_free (k:=0) h51
   have h6:w6.heap[r0]? =some (.cells #[.int .i64 0] 33 (0,0)):=by rw[←hw6];exact(Below.heap_setCell _ _ _ _ (by simp only;omega)).trans h5
   have h61:w6.heap[r1]? =some (.cells #[.int .i64 0] 3 (0,0)):=by rw[←hw6];exact blk_setc (k:=0) (u:= .int .i64 0) h51
   have hkp:∀b,b≠r0→b≠r1→w6.heap[b]? =w4.heap[b]? :=fun b h0 h1=>by
    rw[←hw6,Below.heap_setCell _ _ _ _ (by simpa using h1),←hw5,Below.heap_setCell _ _ _ _ (by simpa using h0)]
   have hX6:Exc g W w6:=by rw[←hw6,←hw5];exact((HI.out.2.2.2.1.ext Ehw4).new (by omega) 0 _).new (by omega) 0 _
   have hR6:Rep w6 (fun b=>W.heap.size≤b) (.slice oa done.length oc) (tksD ts):=by
    rw[←HI.out.2.2.2.2.2.2,List.append_nil]
    exact(((HI.out.2.2.2.2.1.ext Ehw4).rep.ok (fun b hb=>(hb.elim id id:base≤b))).kept fun b hb _=>hkp b (by omega) (by omega)).ok fun b hb=>by omega
   have hS6:SB g w6 s s.length (.slice (some ⟨bb,off,none⟩) s.length bc) (.slice oa done.length oc):=HH.out.1.exc hX6 ((hkp g (by omega) (by omega)).trans (HI.out.2.2.1.ext Ehw4).blk) (Nat.le_refl _)
   have HZ:=Lh (And.intro h6 (And.intro h61 (And.intro hX6 (And.intro hS6 hR6))))
   clear hw4 hq0 hq1 h5 h51 h6 h61 hkp hX6 hR6 hS6 Ehw4 c0 c1 hI
   go_wp2_with fail
   refine leaves_cons (f:=103) (args:= #[.pointer (some ⟨r0,0,none⟩),.pointer (some ⟨r1,0,none⟩)]) (by simp) (by simp[go_sem]) ?_
   refine(catch_ok r0 r1 w6).mono ?_
   rintro e u' w' ⟨rfl,rfl,rfl⟩
   exact⟨_,run_resscan rfl rfl (blk_cell HZ.out.1 (k:=0) rfl) (blk_cell HZ.out.2.1 (k:=0) rfl) _ rfl,rfl,HZ.out.2.2.1,_,HZ.out.2.2.2⟩
  | cons t ts'=>
   obtain⟨e2,hTk,hTr⟩:=HI.out.2.2.2.2.2.1
   have hlt2:=hTk.lt
   obtain⟨hpe,hes,hnl,htl⟩:=hTk.gt
   have hI:decide ((p:Int)< (s.length:Int))=true:=decide_eq_true (by omega)
   have HK:=Lh (And.intro hTk hTr)
   clear hSr hTk hTr
   go_wp2_with fail
   go_quiet (fail)
   obtain⟨wz,hwz⟩:∃w,wr.drewN nq=w:=⟨_,rfl⟩
   have Ehwz:Ext wr wz:=by rw[←hwz];exact(Ext.refl wr).drewN _
   rw[hwz]
   have hSz:=HI.out.2.2.1.ext Ehwz
   obtain⟨us,hrz,hpz⟩:=HI.out.2.2.2.2.1.ext Ehwz
   have c2:=hSz.c2
   have hgb:g< base:=by omega
   have hbb:base≤(World.drew wz).heap.size:=Nat.le_trans hbw Ehwz.size
   have hgo:some g≠Value.ownBlock (.slice oa done.length oc):=fun e=>by have:=(hrz.lt g e.symm).1;omega
   have HC:=Lh (token_any (hSz.ext ((Ext.refl wz).drew)) t HK.out.1)
   have HQ:=Lh (And.intro ((Below.block Ehwz r0 (blk_lt HI.out.1)).trans HI.out.1) (And.intro ((Below.block Ehwz r1 (blk_lt HI.out.2.1)).trans HI.out.2.1) (And.intro (HI.out.2.2.2.1.ext Ehwz) HI.out.2.2.2.2.2.2)))
   clear hwz Ehwz c0 c1 HI
   go_wp2_with fail
   refine wp_noPanic ?_
   refine rg_cut (S:=Sc g 2 (.slice oa done.length oc)) 9 (by kernel_rfl) (by kernel_rfl) (by kernel_rfl) (by kernel_rfl) (show Sc g 2 (.slice oa done.length oc) (World.drew wz) from c2) ?_
   have hSy:Sc g 2 (.slice oa done.length oc) (World.drew wz):=(show Sc g 2 (.slice oa done.length oc) (World.drew wz) from c2)
   refine rg_t 0 (some 17) (.pointer (some ⟨g,0,none⟩)) rfl hSy (fun w' hs=>by rfl) ?_
   simp only[Act.put,sA,sZ,sS]
   refine rg_t 1 (some 18) (.pointer (some ⟨g,0,none⟩)) rfl hSy (fun w' hs=>by rfl) ?_
   simp only[Act.put,sA,sZ,sS]
   refine rg_t 2 (some 19) (.pointer (some ⟨g,0,none⟩)) rfl hSy (fun w' hs=>by first | rfl | go_simp) ?_
   simp only[Act.put,sA,sZ,sS]
   refine rg_t 3 (some 20) (.pointer (some ⟨g,2,none⟩)) rfl hSy (fun w' hs=>by first | rfl | go_simp) ?_
   simp only[Act.put,sA,sZ,sS]
   refine rg_t 4 (some 21) (.slice oa done.length oc) rfl hSy (fun w' hs=>by(have h0:=hs.cell trivial trivial;go_simp)) ?_
   simp only[Act.put,sA,sZ,sS]
   refine rg_t 5 (some 22) (.pointer (some ⟨g,0,none⟩)) rfl hSy (fun w' hs=>by rfl) ?_
   simp only[Act.put,sA,sZ,sS]
   refine rg_one 6 (by kernel_rfl) ?_
   refine tk_call 6 (some 23) 105 #[.pointer (some ⟨g,0,none⟩)] rfl rfl (by rfl) (fun w'=>by first | rfl | go_simp) (R:=fun v w'=>∃(xa:Option Addr) (xd:Nat),v= .agg #[.int .i64 t.kind,.int .i64 (t.at':Nat),.string (bs t.name),.string (bs t.text),.slice xa t.attrs.length xd]∧Rep w' (fun b=>(World.drew wz).heap.size≤b) (.slice xa t.attrs.length xd) (attrsD t.attrs)∧SB g w' s e2 (.slice (some ⟨bb,off,none⟩) s.length bc) (.slice oa done.length oc)∧Exc g (World.drew wz) w') ?_ ?_
   ·
    exact HC.out.mono fun ed w' ⟨va,he,h0,h1,h2⟩=>by
     obtain⟨xa,xd,rfl,_,_⟩:=h0.count z_attr (by omega)
     exact⟨_,he,xa,xd,rfl,h0,h1,h2⟩
   rintro _ xq ⟨xa,xd,rfl,hqr,hq1,hq2⟩
   have hSq:Sc g 2 (.slice oa done.length oc) xq:=hq1.c2
   refine⟨hSq,?_⟩
   simp only[Act.put,sA,sZ,sS]
   refine rg_one 7 (by kernel_rfl) ?_
   refine tk_new 7 (some 24) (.cells #[.int .i64 t.kind,.int .i64 (t.at':Nat),.string (bs t.name),.string (bs t.text),.slice xa t.attrs.length xd] 75) (fun n=> .slice (some ⟨n,0,none⟩) 1 1) rfl rfl (by rfl) (by first | rfl | go_simp) ?_
   intro gb xb egb hxb hzxb hC
   have hSb:Sc g 2 (.slice oa done.length oc) xb:=sc_ext hSq hxb
   refine⟨hSb,?_⟩
   simp only[Act.put,sA,sZ,sS]
   have hbse:base≤xb.heap.size:=Nat.le_trans hbb (Nat.le_trans hq2.1 hxb.size)
   refine rg_one 8 (by kernel_rfl) ?_
   refine tk_src 8 (some 25) rfl rfl (by rfl) (.tmp 21) (.tmp 24) 67 rfl base 75 i0 (.agg #[.int .i64 0,.int .i64 0,.string ⟨#[]⟩,.string ⟨#[]⟩,.slice none 0 0]) 5 72 Tryz.underlying67 hi hz0 hz1 hz2 rfl (by decide) (.slice oa done.length oc) done.length us rfl (rows_ext (xrows_exc (rows_ext hrz ((Ext.refl wz).drew)) hq2 hgb) hxb) (.slice (some ⟨gb,0,none⟩) 1 1) 1 [.int .i64 t.kind,.int .i64 (t.at':Nat),.string (bs t.name),.string (bs t.text),.slice xa t.attrs.length xd] rfl (Src.block hC rfl) (by intro u hu;simp at hu;rcases hu with rfl | rfl | rfl | rfl | rfl<;> rfl) (by unfold maxLen;omega) (by omega) hbse ?_
   intro v3 xc hr3 hg3 ha3
   have hSc:Sc g 2 (.slice oa done.length oc) xc:=sc_grown hSb hg3 hgo
   refine⟨hSc,?_⟩
   simp only[Act.put,sA,sZ,sS]
   obtain⟨v3a,v3c,rfl⟩:=own_form hr3
   have c4c:=hSc
   have f4c:=blk_free (k:=2) (blk_chain (wz:=xq) (g:=g+1) hq1.blk (Exc.refl _ xq) (by omega) hxb hg3 hgo)
   refine rg_done (by kernel_rfl) ?_
   refine rg_go 3 #[true,true,true,true,true,true,true,true,true,false,false,false] (by kernel_rfl) (by kernel_rfl) fun m=> ?_
   refine rg_t 9 (some 26) (.pointer (some ⟨g,0,none⟩)) rfl trivial (fun w' hs=>by first | rfl | go_simp) ?_
   simp only[Act.put,sA,sZ,sS]
   refine rg_t 10 (some 27) (.pointer (some ⟨g,2,none⟩)) rfl trivial (fun w' hs=>by first | rfl | go_simp) ?_
   simp only[Act.put,sA,sZ,sS]
   refine rg_write 11 none (xc.setCell ⟨g,2,none⟩ (.slice v3a (done.length+1) v3c)) rfl rfl (by kernel_rfl) (by rfl) (exec_store rfl (store_slice _ s1Toks c4c f4c _ _ _)) trivial ?_
   simp only[Act.put,sA,sZ,sS]
   refine rg_done (by kernel_rfl) ?_
   simp only[noPanic]
   obtain⟨w9,hw9⟩:∃X,xc.setCell ⟨g,2,none⟩ (.slice v3a (done.length+1) v3c)=X:=⟨_,rfl⟩
   rw[hw9]
   have hkc:∀b (o:Obj),b≠g→some b≠Value.ownBlock (.slice oa done.length oc)→wz.heap[b]? =some o→w9.heap[b]? =some o:=fun b o h1 h2 h3=>by
    rw[←hw9]
    exact(Below.heap_setCell _ _ _ _ (by simpa using h1)).trans (blk_chain (wz:=World.drew wz) h3 hq2 h1 hxb hg3 h2)
   have hbg:w9.heap[g]? =some (.cells #[.slice (some ⟨bb,off,none⟩) s.length bc,.int .i64 e2,.slice v3a (done.length+1) v3c] 122 (0,0)):=by
    rw[←hw9]
    exact blk_setc (k:=2) (u:= .slice v3a (done.length+1) v3c) (blk_chain (wz:=xq) (g:=g+1) hq1.blk (Exc.refl _ xq) (by omega) hxb hg3 hgo)
   have hXc:Exc g W xc:=(((HQ.out.2.2.1.ext ((Ext.refl wz).drew)).trans hq2).ext hxb).grown hg3 (fun k hk=>by have:=(hrz.lt k hk).1;omega)
   have hX9:Exc g W w9:=by rw[←hw9];exact hXc.set rfl _
   have hO9:Own w9 (fun b=>base≤b) base 75 5 (.slice v3a (done.length+1) v3c) (done++ [t]).length ((done++ [t]).flatMap tkC):=by
    rw[List.length_append,List.flatMap_append,List.flatMap_singleton,List.length_singleton]
    have hpn:Reps xb (fun b=>base≤b∧some b≠Value.ownBlock (.slice oa done.length oc)∧b< xb.heap.size) us (done.flatMap tkC):=
     (((hpz.ext ((Ext.refl wz).drew)).kept fun b hb hlt=>hq2.2 b (by have:=hb.1;omega) hlt).ext hxb).ok fun b hb=>⟨hb.1,hb.2.1,Nat.lt_of_lt_of_le hb.2.2 (Nat.le_trans hq2.1 hxb.size)⟩
    have hqn:Rep xb (fun b=>base≤b∧some b≠Value.ownBlock (.slice oa done.length oc)∧b< xb.heap.size) (.slice xa t.attrs.length xd) (attrsD t.attrs):=
     (hqr.ext hxb).lt.ok fun b hb=>⟨Nat.le_trans hbb hb.1,fun e=>by
      have h1:=(hrz.lt b e.symm).2
      have h2:wz.heap.size≤b:=hb.1
      omega,hb.2⟩
    have hO:=Own.push (p:=fun b=>base≤b) hpn (Reps.cons (Rep.int _ _ _ _) (Reps.cons (Rep.int _ _ _ _) (Reps.cons (Rep.string _ _ _ (by rw[bs_size];omega)) (Reps.cons (Rep.string _ _ _ (by rw[bs_size];omega)) (Reps.cons (e:=attrsD t.attrs) hqn (Reps.nil _ _)))))) hr3 hg3 ha3
    obtain⟨us9,hr9,hp9⟩:=hO
    rw[←hw9]
    exact⟨us9,rows_set hr9 (p:=⟨g,2,none⟩) (fun e=>by have:=(hr9.lt g e.symm).1;omega) _,(hp9.kept fun b hb _=>Below.heap_setCell _ _ _ _ (by have:=hb.1;simp only;omega)).ok fun b hb=>⟨hb.1,hb.2.1,by simpa using hb.2.2⟩⟩
   have hs9:base≤w9.heap.size:=by have:=blk_lt hbg;rw[←hw9];simp;exact Nat.le_trans hbse hg3.size
   have hS9:=HH.out.1.exc hX9 hbg hes
   have HE:=Lh (show atQ s.length g w9=s.length - e2 by simp only[atQ,hS9.c1];rfl)
   have HR:=Lh (And.intro (hkc r0 _ (by omega) (fun e=>by have:=(hrz.lt r0 e.symm).1;omega) HQ.out.1) (And.intro (hkc r1 _ (by omega) (fun e=>by have:=(hrz.lt r1 e.symm).1;omega) HQ.out.2.1) (And.intro hS9 (And.intro hX9 (And.intro hO9 (And.intro HK.out.2 (show(done++ [t])++ts'=ts by rw[List.append_assoc];exact HQ.out.2.2.2)))))))
   clear hw9 hkc hbg hXc hX9 hO9 hS9 hq1 hq2 hqr hxb hr3 hg3 ha3 hrz hpz c2 HC hSz HQ hC
   go_wp2_with fail
   go_roundw
   case rel=>exact⟨e2,done++ [t],ts',_,hs9,by simp;omega,HR⟩
   case measure=>rw[HMZ.out,HE.out];omega
end
theorem own_bytes {w:World} {base:Nat} {v:Value} {s:Bytes} (h:w.ownsRow base 5 1 v s.length (rowB s)):Rep w (fun b=>base≤b) v (numsD .u8 (byI s)):=by
 have hO:Own w (fun _=>False) base 5 1 v s.length ((byI s).flatMap fun c=> [DV.v (.int .u8 c)]):=⟨rowB s,h,nums_reps w _ .u8 (byI s)⟩
 exact hO.rep'
theorem all_any (s:Bytes) (hs:0< s.length) (hl:s.length≤65536) (hb:badS s= -1) (hd:hasS s [60,63,120,109,108]=false) (ts:List TokX) (hT:TksR s 0 ts) (p:Nat→Prop) (v:Value) (w:World) (hE:EN w) (hv:Rep w p v (numsD .u8 (byI s))):
  Calls Tryz.prog 29 #[v] w fun ed w'=>∃va,ed= .returned (.tuple #[va,.nilIface])∧Rep w' (fun b=>w.heap.size≤b) va (tksD ts)∧Ext w w':=by
 obtain⟨a,c,rfl,hc1,hc2⟩:=by_count hv
 obtain⟨vb,vo,rfl,hvb,_⟩:=by_at hv 0 hs
 have HC:=Lh (Tryz.bytes_Clone_at ⟨vb,vo,none⟩ s.length c (byI s) w (byI_len s) (by omega) (fun i hi=>by
  obtain⟨b',o',e,_,k⟩:=by_at hv i hi
  cases e
  rw[add_offs',k,byI_getD s i hi]))
 have HV:=Lh (And.intro hv (And.intro hE hT))
 have hbI:¬(0:Int)≤badS s:=by omega
 have hlI:¬(65536:Int)< (s.length:Int):=by omega
 have HBD:=Lh fun W (hX:Ext w W)=>bad_any s (by omega) p _ W ((hE.ext hX).all) (hv.ext hX)
 clear hv hE hT
 go_enter Tryz.func29,Tryz.ntmps29
 go_wp2_with fail
 refine HC.out.mono ?_
 rintro e w1 ⟨bv,rfl,hown,hnn,hX1⟩
 obtain⟨ba,bc,rfl⟩:=own_form hown
 obtain⟨w2,hw2⟩:∃X,w1.alloc (.cells #[.slice ba s.length bc,.int .i64 0,.slice none 0 0] 122)=X:=⟨_,rfl⟩
 obtain⟨g,hg⟩:∃g,w1.heap.size=g:=⟨_,rfl⟩
 have hE2:Ext w1 w2:=by rw[←hw2];exact(Ext.refl w1).alloc _
 have hb2:w2.heap[g]? =some (.cells #[.slice ba s.length bc,.int .i64 ((0:Nat):Int),.slice none 0 0] 122 (0,0)):=by rw[←hw2,←hg];exact Array.getElem?_push_size ..
 have hX2:Ext w w2:=Ext.trans hX1 hE2
 have hwg:w.heap.size≤g:=by rw[←hg];exact hX1.size
 have hSB:SB g w2 s 0 (.slice ba s.length bc) (.slice none 0 0):=
  ⟨hb2,((own_bytes hown).lt.ext hE2).ok (fun b hb=>by have:=hb.2;omega),Nat.zero_le _,hl,fun W' h'=>HV.out.2.1.ext (Exc.to h' hX2 hwg)⟩
 have HS:=Lh hSB
 have HX2:=Lh hX2
 have HGW:=Lh hg
 clear HC hown hnn hX1 hE2 hb2 hSB hg
 go_wp2_with fail
 try rw[HGW.out]
 refine(HBD.out w2 HX2.out).mono ?_
 rintro e w3 ⟨rfl,hX3⟩
 have HC:=Lh (scan_any (HS.out.ext hX3) hs hd ts HV.out.2.2)
 have HX3:=Lh (HX2.out.trans hX3)
 obtain⟨bz,hbz⟩:∃z,badS s=z:=⟨_,rfl⟩
 rw[hbz]at hbI⊢
 clear HBD HS hX3 hw2 hb hbz
 go_wp2_with fail
 refine HC.out.mono ?_
 rintro e w4 ⟨rfl,hX4,ov,hS4,hR4⟩
 have c2:=hS4.c2
 obtain⟨oa,oc,rfl,_,_⟩:=hR4.count z_tk (by omega)
 have HZ:=Lh (And.intro (Exc.to hX4 HX3.out hwg) (show Rep w4 (fun b=>w.heap.size≤b) (.slice oa ts.length oc) (tksD ts) from hR4.ok fun b hb=>Nat.le_trans HX3.out.size hb))
 clear HC hX4 hS4 hR4
 go_wp2_with fail
 go_ret2
 exact⟨_,rfl,HZ.out.2,HZ.out.1⟩
structure Lv where
 b:Nat
 n:Node
 va:Value
 vk:Value
def Mut (B0 g:Nat) (ov:Value) (L:List Lv) (b:Nat):Prop:=(b< B0∨b=g)∨some b=ov.ownBlock∨∃l∈L,b=l.b∨some b=l.vk.ownBlock
structure LvOk (W:World) (p:Nat→Prop) (g:Nat) (l:Lv):Prop where
 blk:W.heap[l.b]? =some (.cells #[.int .i64 l.n.kind,.string (bs l.n.name),.string (bs l.n.text),l.va,l.vk] 26 (0,0))
 va:Rep W p l.va (attrsD l.n.attrs)
 vk:Own W p (g+1) 26 5 l.vk l.n.kids.length (l.n.kids.flatMap nodeC)
 gb:g< l.b
 lt:∀k,l.vk.ownBlock=some k→l.b< k
 nl:l.n.name.length≤65536∧l.n.text.length≤65536
structure BT (B0 g:Nat) (W0 W:World) (L:List Lv) (ov:Value) (rn:Node) (ra rk:Value) (tx:Bytes) (nn:Nat) (rt:Bool):Prop where
 ext:Ext W0 W
 hg:W0.heap.size≤g
 hb0:B0≤g
 blk:W.heap[g]? =some (.cells #[.slice none 0 0,.int .i64 rn.kind,.string (bs rn.name),.string (bs rn.text),ra,rk,.slice none 0 0,ov,.string (bs tx),.int .i64 (nn:Nat),.bool rt] 73 (0,0))
 row:W.ownsRow (g+1) 126 1 ov L.length (L.reverse.map fun l=> .pointer (some ⟨l.b,0,none⟩))
 lv:∀l∈L,LvOk W (fun b=>¬Mut B0 g ov L b) g l
 ord:L.Pairwise fun u l=>l.b< u.b∧∀k,l.vk.ownBlock=some k→k< u.b
 ra:Rep W (fun b=>¬Mut B0 g ov L b) ra (attrsD rn.attrs)
 rk:Rep W (fun b=>¬Mut B0 g ov L b) rk (nodesD rn.kids)
def addKid (n x:Node):Node:= .mk n.kind n.name n.text n.attrs (n.kids++ [x])
structure Chg (M:Nat→Prop) (a w:World):Prop where
 size:a.heap.size≤w.heap.size
 blk:∀b,¬M b→b< a.heap.size→w.heap[b]? =a.heap[b]?
 out:w.os=a.os∧w.tape=a.tape∧w.output=a.output
theorem Chg.imp {M M':Nat→Prop} {a w:World} (h:Chg M a w) (hm:∀b,M b→M' b):Chg M' a w:=⟨h.1,fun b hb hl=>h.2 b (fun e=>hb (hm b e)) hl,h.3⟩
theorem Chg.trans {M:Nat→Prop} {a b c:World} (h:Chg M a b) (k:Chg M b c):Chg M a c:=⟨Nat.le_trans h.1 k.1,fun x hx hl=>(k.2 x hx (Nat.lt_of_lt_of_le hl h.1)).trans (h.2 x hx hl),k.3.1.trans h.3.1,k.3.2.1.trans h.3.2.1,k.3.2.2.trans h.3.2.2⟩
theorem Ext.chg {M:Nat→Prop} {a w:World} (h:Ext a w):Chg M a w:=⟨h.size,fun b _ hl=>Below.block h b hl,h.os,h.tape,h.output⟩
theorem grown_chg {a w:World} {row:Option Nat} (h:a.grownBy w row):Chg (fun b=>some b=row) a w:=⟨h.size,fun b hb hl=>h.block b hl hb,h.os,h.tape,h.output⟩
theorem set_chg (w:World) (p:Addr) (u:Value):Chg (fun b=>b=p.block) w (w.setCell p u):=⟨by simp,fun b hb _=>Below.heap_setCell _ _ _ _ hb,rfl,rfl,rfl⟩
theorem rows_keep {w w':World} {base z n:Nat} {e:TypeId} {v:Value} {us:List Value} (h:w.ownsRow base e z v n us) (hk:∀k,v.ownBlock=some k→w'.heap[k]? =w.heap[k]?):w'.ownsRow base e z v n us:=by
 refine⟨h.1,?_⟩
 rcases h.2 with h2 | ⟨g,cap,cur,rfl,hg,hb,hr⟩
 ·
  exact .inl h2
 ·
  exact .inr ⟨g,cap,cur,rfl,hg,(hk g rfl).trans hb,hr⟩
theorem Own.xkeep {w w':World} {p:Nat→Prop} {base z n:Nat} {e:TypeId} {v:Value} {es:List DV} (h:Own w p base e z v n es) (hs:w.heap.size≤w'.heap.size) (hk:∀k,v.ownBlock=some k→w'.heap[k]? =w.heap[k]?) (hp:∀b,p b→b< w.heap.size→w'.heap[b]? =w.heap[b]?) {q:Nat→Prop} (hq:∀b,p b→b< w.heap.size→q b):Own w' q base e z v n es:=by
 obtain⟨us,h1,h2⟩:=h
 exact⟨us,rows_keep h1 hk,(h2.kept fun b hb hl=>hp b hb.1 hl).ok fun b hb=>⟨hq b hb.1 hb.2.2,hb.2.1,Nat.lt_of_lt_of_le hb.2.2 hs⟩⟩
theorem Rep.keep {w w':World} {p q:Nat→Prop} {v:Value} {d:DV} (h:Rep w p v d) (hp:∀b,p b→b< w.heap.size→w'.heap[b]? =w.heap[b]?) (hq:∀b,p b→b< w.heap.size→q b):Rep w' q v d:=
 (h.lt.kept fun b hb hl=>hp b hb.1 hl).ok fun b hb=>hq b hb.1 hb.2
theorem LvOk.keep {W W':World} {p q:Nat→Prop} {g:Nat} {l:Lv} (h:LvOk W p g l) (hs:W.heap.size≤W'.heap.size) (hb:W'.heap[l.b]? =W.heap[l.b]?) (hk:∀k,l.vk.ownBlock=some k→W'.heap[k]? =W.heap[k]?) (hp:∀b,p b→b< W.heap.size→W'.heap[b]? =W.heap[b]?) (hq:∀b,p b→b< W.heap.size→q b):LvOk W' q g l:=
 ⟨hb.trans h.blk,h.va.keep hp hq,h.vk.xkeep hs hk hp hq,h.gb,h.lt,h.nl⟩
theorem Own.repk {w:World} {p:Nat→Prop} {base z n:Nat} {e:TypeId} {v:Value} {es:List DV} (h:Own w p base e z v n es):Rep w (fun b=>p b∨some b=v.ownBlock) v (.s z es):=by
 obtain⟨us,h1,h2⟩:=h
 rcases h1.2 with⟨rfl,rfl⟩ | ⟨g,cap,cur,rfl,hb,hg,hn,hm,hs,ht⟩
 ·
  have:es= []:=List.eq_nil_of_length_eq_zero (by rw[←h2.1,h1.1];simp)
  subst this;exact .nil z
 ·
  exact .row g 0 n cap z us es (fun _=>Or.inr rfl) (by rw[←h2.1];exact h1.1) h1.1 hn (by unfold maxLen at hm;omega) (fun k u hk=>by
   have:=h1.cells (g:=g) rfl k u hk
   rw[add_offs']at this;exact this) (fun k u d hk hd=>(h2.2 k u d hk hd).ok fun b hb=>Or.inl hb.1)
section
variable {B0 g:Nat} {W0 W W':World} {L R:List Lv} {l:Lv} {ov:Value} {rn:Node} {ra rk:Value} {tx tx':Bytes} {nn nn':Nat} {rt rt':Bool}
theorem BT.lvlt (h:BT B0 g W0 W L ov rn ra rk tx nn rt) {l:Lv} (hl:l∈L):l.b< W.heap.size∧∀k,l.vk.ownBlock=some k→k< W.heap.size:=by
 refine⟨blk_lt (h.lv l hl).blk,fun k hk=> ?_⟩
 obtain⟨us,h1,_⟩:=(h.lv l hl).vk
 exact(h1.lt k hk).2
theorem BT.ovne (h:BT B0 g W0 W L ov rn ra rk tx nn rt) {k:Nat} (hk:ov.ownBlock=some k):g< k∧∀l∈L,k≠l.b∧l.vk.ownBlock≠some k:=by
 obtain⟨c,fz,hc⟩:=Lib.ownsRow_kind h.row k hk
 refine⟨(h.row.lt k hk).1,fun l hl=>⟨fun e=> ?_,fun e=> ?_⟩⟩
 ·
  subst e
  rw[(h.lv l hl).blk]at hc
  injection hc with hc
  injection hc with _ e2
  exact absurd e2 (by decide)
 ·
  obtain⟨us,h1,_⟩:=(h.lv l hl).vk
  obtain⟨c2,fz2,hc2⟩:=Lib.ownsRow_kind h1 k e
  rw[hc2]at hc
  injection hc with hc
  injection hc with _ e2
  exact absurd e2 (by decide)
theorem BT.gset (h:BT B0 g W0 W L ov rn ra rk tx nn rt) (hX:Exc g W W') (hb:W'.heap[g]? =some (.cells #[.slice none 0 0,.int .i64 rn.kind,.string (bs rn.name),.string (bs rn.text),ra,rk,.slice none 0 0,ov,.string (bs tx'),.int .i64 (nn':Nat),.bool rt'] 73 (0,0))):BT B0 g W0 W' L ov rn ra rk tx' nn' rt':=by
 have hp:∀b,¬Mut B0 g ov L b→b< W.heap.size→W'.heap[b]? =W.heap[b]? :=fun b hb hl=>hX.2 b (fun e=>hb (.inl (.inr e))) hl
 refine⟨Exc.to hX h.ext h.hg,h.hg,h.hb0,hb,xrows_exc h.row hX (Nat.lt_succ_self _),fun l hl=> ?_,h.ord,h.ra.keep hp fun b hb _=>hb,h.rk.keep hp fun b hb _=>hb⟩
 have hlv:=h.lv l hl
 have hlt:=h.lvlt hl
 exact hlv.keep hX.1 (hX.2 _ (by have:=hlv.gb;omega) hlt.1) (fun k hk=>hX.2 k (by have:=hlv.gb;have:=hlv.lt k hk;omega) (hlt.2 k hk)) hp fun b hb _=>hb
theorem BT.ext' (h:BT B0 g W0 W L ov rn ra rk tx nn rt) (hE:Ext W W'):BT B0 g W0 W' L ov rn ra rk tx nn rt:=h.gset (Exc.of g hE) ((Below.block hE g (blk_lt h.blk)).trans h.blk)
theorem put_leaf (h:BT B0 g W0 W (l::R) ov rn ra rk tx nn rt) {W3:World} {v3:Value} {us:List Value} (x:Node) (xa xk:Value) (hC:Chg (fun b=>b=l.b∨some b=l.vk.ownBlock) W W3)
  (hb:W3.heap[l.b]? =some (.cells #[.int .i64 l.n.kind,.string (bs l.n.name),.string (bs l.n.text),l.va,v3] 26 (0,0)))
  (hr:W3.ownsRow (g+1) 26 5 v3 (l.n.kids.length+1) (us++ [.int .i64 x.kind,.string (bs x.name),.string (bs x.text),xa,xk]))
  (hu:Reps W (fun b=>¬Mut B0 g ov (l::R) b∧some b≠l.vk.ownBlock∧b< W.heap.size) us (l.n.kids.flatMap nodeC))
  (ha:v3.ownBlock=l.vk.ownBlock∨∃k,v3.ownBlock=some k∧W.heap.size≤k)
  (hxa:Rep W (fun b=>¬Mut B0 g ov (l::R) b) xa (attrsD x.attrs)) (hxk:Rep W (fun b=>¬Mut B0 g ov (l::R) b) xk (nodesD x.kids)) (hn:x.name.length≤65536) (ht:x.text.length≤65536):
  BT B0 g W0 W3 ({l with n:=addKid l.n x,vk:=v3}::R) ov rn ra rk tx nn rt:=by
 have hl:=h.lv l (List.mem_cons_self ..)
 have hlt:=h.lvlt (List.mem_cons_self ..)
 have hgb:=hl.gb
 have hp:∀b,¬Mut B0 g ov (l::R) b→b< W.heap.size→W3.heap[b]? =W.heap[b]? :=fun b hb hlb=>hC.2 b (fun e=>hb (.inr (.inr ⟨l,List.mem_cons_self ..,e⟩))) hlb
 have hq:∀b,¬Mut B0 g ov (l::R) b→b< W.heap.size→¬Mut B0 g ov ({l with n:=addKid l.n x,vk:=v3}::R) b:=fun b hb hlb hm=>by
  rcases hm with e | e | ⟨y,hy,e⟩
  ·
   exact hb (.inl e)
  ·
   exact hb (.inr (.inl e))
  ·
   rcases List.mem_cons.1 hy with rfl | hy
   ·
    rcases e with e | e
    ·
     exact hb (.inr (.inr ⟨l,List.mem_cons_self ..,.inl e⟩))
    ·
     rcases ha with ha | ⟨k,ha,hk⟩
     ·
      exact hb (.inr (.inr ⟨l,List.mem_cons_self ..,.inr (e.trans ha)⟩))
     ·
      have:=Option.some.inj (e.trans ha);omega
   ·
    exact hb (.inr (.inr ⟨y,List.mem_cons_of_mem _ hy,e⟩))
 have ho:=List.pairwise_cons.1 h.ord
 have hgc:W3.heap[g]? =W.heap[g]? :=hC.2 g (fun e=>by
  rcases e with e | e
  ·
   omega
  ·
   have:=hl.lt g e.symm;omega) (blk_lt h.blk)
 have hov:∀k,ov.ownBlock=some k→W3.heap[k]? =W.heap[k]? :=fun k hk=>hC.2 k (fun e=>by
  have hne:=(h.ovne hk).2 l (List.mem_cons_self ..)
  rcases e with e | e
  ·
   exact hne.1 e
  ·
   exact hne.2 e.symm) (h.row.lt k hk).2
 have hext:Ext W0 W3:=⟨hC.3.1.trans h.ext.os,hC.3.2.1.trans h.ext.tape,hC.3.2.2.trans h.ext.output,Nat.le_trans h.ext.size hC.1,fun k hk=>by
  have:=h.hg
  refine(hC.2 k (fun e=> ?_) (Nat.lt_of_lt_of_le hk h.ext.size)).trans (Below.block h.ext k hk)
  rcases e with e | e
  ·
   omega
  ·
   have:=hl.lt k e.symm;omega⟩
 refine⟨hext,h.hg,h.hb0,hgc.trans h.blk,by have:=rows_keep h.row hov;simpa using this,fun y hy=> ?_,List.pairwise_cons.2 ⟨ho.1,ho.2⟩,h.ra.keep hp hq,h.rk.keep hp hq⟩
 rcases List.mem_cons.1 hy with rfl | hy
 ·
  refine⟨hb,hl.va.keep hp hq,?_,hgb,fun k hk=> ?_,hl.nl⟩
  ·
   have e:(addKid l.n x).kids=l.n.kids++ [x]:=rfl
   simp only[e]
   rw[List.length_append,List.flatMap_append,List.flatMap_singleton,List.length_singleton]
   refine⟨_,hr,?_⟩
   have hr':∀b,b< W.heap.size→some b≠l.vk.ownBlock→some b≠v3.ownBlock:=fun b h1 h2 e=>by
    rcases ha with ha | ⟨k,ha,hk⟩
    ·
     exact h2 (e.trans ha)
    ·
     have:=Option.some.inj (e.trans ha);omega
   rw[nodeC_eq]
   have hown:∀b,¬Mut B0 g ov (l::R) b→some b≠l.vk.ownBlock:=fun b hb e=>hb (.inr (.inr ⟨l,List.mem_cons_self ..,.inr e⟩))
   refine Reps.append ((hu.kept fun b hb hlb=>hp b hb.1 hlb).ok fun b hb=>⟨hq b hb.1 hb.2.2,hr' b hb.2.2 hb.2.1,Nat.lt_of_lt_of_le hb.2.2 hC.1⟩) ?_
   exact Reps.cons (Rep.int _ _ _ _) (Reps.cons (Rep.string _ _ _ (by rw[bs_size];omega)) (Reps.cons (Rep.string _ _ _ (by rw[bs_size];omega)) (Reps.cons (e:=attrsD x.attrs) (hxa.keep hp fun b hb hlb=>⟨hq b hb hlb,hr' b hlb (hown b hb),Nat.lt_of_lt_of_le hlb hC.1⟩) (Reps.cons (e:=nodesD x.kids) (hxk.keep hp fun b hb hlb=>⟨hq b hb hlb,hr' b hlb (hown b hb),Nat.lt_of_lt_of_le hlb hC.1⟩) (Reps.nil _ _)))))
  ·
   rcases ha with ha | ⟨k',ha,hk'⟩
   ·
    exact hl.lt k (ha ▸ hk)
   ·
    have:=Option.some.inj (hk.symm.trans ha)
    have:=hlt.1
    simp only
    omega
 ·
  have hy':=h.lv y (List.mem_cons_of_mem _ hy)
  have hyl:=h.lvlt (List.mem_cons_of_mem _ hy)
  have hyo:=ho.1 y hy
  refine hy'.keep hC.1 (hC.2 _ (fun e=> ?_) hyl.1) (fun k hk=>hC.2 k (fun e=> ?_) (hyl.2 k hk)) hp hq
  ·
   rcases e with e | e
   ·
    omega
   ·
    have:=hl.lt _ e.symm;omega
  ·
   have:=hyo.2 k hk
   rcases e with e | e
   ·
    omega
   ·
    have:=hl.lt _ e.symm;omega
theorem push_leaf (h:BT B0 g W0 W L ov rn ra rk tx nn rt) {W3:World} {ov3:Value} (n:Node) (hk:n.kids= []) (va:Value) (b:Nat) (hbs:W.heap.size≤b) (hC:Chg (fun b=>b=g∨some b=ov.ownBlock) W W3)
  (hb:W3.heap[b]? =some (.cells #[.int .i64 n.kind,.string (bs n.name),.string (bs n.text),va,.slice none 0 0] 26 (0,0)))
  (hg3:W3.heap[g]? =some (.cells #[.slice none 0 0,.int .i64 rn.kind,.string (bs rn.name),.string (bs rn.text),ra,rk,.slice none 0 0,ov3,.string (bs tx),.int .i64 (nn:Nat),.bool rt'] 73 (0,0)))
  (hr:W3.ownsRow (g+1) 126 1 ov3 (L.length+1) ((L.reverse.map fun l=> .pointer (some ⟨l.b,0,none⟩))++ [.pointer (some ⟨b,0,none⟩)]))
  (ha:ov3.ownBlock=ov.ownBlock∨∃k,ov3.ownBlock=some k∧W.heap.size≤k)
  (hva:Rep W (fun b=>¬Mut B0 g ov L b) va (attrsD n.attrs)) (hn:n.name.length≤65536) (ht:n.text.length≤65536):
  BT B0 g W0 W3 (⟨b,n,va,.slice none 0 0⟩::L) ov3 rn ra rk tx nn rt':=by
 have hgl:=blk_lt h.blk
 have hp:∀c,¬Mut B0 g ov L c→c< W.heap.size→W3.heap[c]? =W.heap[c]? :=fun c hc hlc=>hC.2 c (fun e=>by
  rcases e with e | e
  ·
   exact hc (.inl (.inr e))
  ·
   exact hc (.inr (.inl e))) hlc
 have hq:∀c,¬Mut B0 g ov L c→c< W.heap.size→¬Mut B0 g ov3 (⟨b,n,va,.slice none 0 0⟩::L) c:=fun c hc hlc hm=>by
  rcases hm with e | e | ⟨y,hy,e⟩
  ·
   exact hc (.inl e)
  ·
   rcases ha with ha | ⟨k,ha,hk⟩
   ·
    exact hc (.inr (.inl (e.trans ha)))
   ·
    have:=Option.some.inj (e.trans ha);omega
  ·
   rcases List.mem_cons.1 hy with rfl | hy
   ·
    rcases e with e | e
    ·
     simp only at e;omega
    ·
     simp[Value.ownBlock]at e
   ·
    exact hc (.inr (.inr ⟨y,hy,e⟩))
 have hext:Ext W0 W3:=⟨hC.3.1.trans h.ext.os,hC.3.2.1.trans h.ext.tape,hC.3.2.2.trans h.ext.output,Nat.le_trans h.ext.size hC.1,fun k hk=>by
  have:=h.hg
  refine(hC.2 k (fun e=> ?_) (Nat.lt_of_lt_of_le hk h.ext.size)).trans (Below.block h.ext k hk)
  rcases e with e | e
  ·
   omega
  ·
   have:=(h.row.lt k e.symm).1;omega⟩
 refine⟨hext,h.hg,h.hb0,hg3,?_,fun y hy=> ?_,List.pairwise_cons.2 ⟨fun y hy=> ?_,h.ord⟩,h.ra.keep hp hq,h.rk.keep hp hq⟩
 ·
  rw[List.reverse_cons,List.map_append,List.map_singleton,List.length_cons];exact hr
 ·
  rcases List.mem_cons.1 hy with rfl | hy
  ·
   refine⟨hb,hva.keep hp hq,?_,by simp only;omega,fun k hk=>by simp[Value.ownBlock]at hk,hn,ht⟩
   simp only[hk]
   exact Own.nil _ _ _ _ _
  ·
   have hy':=h.lv y hy
   have hyl:=h.lvlt hy
   refine hy'.keep hC.1 (hC.2 _ (fun e=> ?_) hyl.1) (fun k hk=>hC.2 k (fun e=> ?_) (hyl.2 k hk)) hp hq
   ·
    rcases e with e | e
    ·
     have:=hy'.gb;omega
    ·
     exact((h.ovne e.symm).2 y hy).1 rfl
   ·
    rcases e with e | e
    ·
     have:=hy'.gb;have:=hy'.lt k hk;omega
    ·
     exact((h.ovne e.symm).2 y hy).2 hk
 ·
  have hyl:=h.lvlt hy
  exact⟨by simp only;omega,fun k hk=>by have:=hyl.2 k hk;simp only;omega⟩
theorem pop_leaf (h:BT B0 g W0 W (l::R) ov rn ra rk tx nn rt) {W3:World} {ov3:Value} (hX:Exc g W W3) (hg3:W3.heap[g]? =some (.cells #[.slice none 0 0,.int .i64 rn.kind,.string (bs rn.name),.string (bs rn.text),ra,rk,.slice none 0 0,ov3,.string (bs tx),.int .i64 (nn:Nat),.bool rt] 73 (0,0)))
  (hr:W3.ownsRow (g+1) 126 1 ov3 R.length (R.reverse.map fun l=> .pointer (some ⟨l.b,0,none⟩))) (ha:ov3.ownBlock=ov.ownBlock):
  BT B0 g W0 W3 R ov3 rn ra rk tx nn rt∧Rep W3 (fun b=>¬Mut B0 g ov3 R b) l.va (attrsD l.n.attrs)∧Rep W3 (fun b=>¬Mut B0 g ov3 R b) l.vk (nodesD l.n.kids):=by
 have hl:=h.lv l (List.mem_cons_self ..)
 have ho:=List.pairwise_cons.1 h.ord
 have hp:∀c,¬Mut B0 g ov (l::R) c→c< W.heap.size→W3.heap[c]? =W.heap[c]? :=fun c hc hlc=>hX.2 c (fun e=>hc (.inl (.inr e))) hlc
 have hq:∀c,¬Mut B0 g ov (l::R) c→c< W.heap.size→¬Mut B0 g ov3 R c:=fun c hc _ hm=>by
  rcases hm with e | e | ⟨y,hy,e⟩
  ·
   exact hc (.inl e)
  ·
   exact hc (.inr (.inl (e.trans ha)))
  ·
   exact hc (.inr (.inr ⟨y,List.mem_cons_of_mem _ hy,e⟩))
 refine⟨⟨Exc.to hX h.ext h.hg,h.hg,h.hb0,hg3,hr,fun y hy=> ?_,ho.2,h.ra.keep hp hq,h.rk.keep hp hq⟩,hl.va.keep hp hq,?_⟩
 ·
  have hy':=h.lv y (List.mem_cons_of_mem _ hy)
  have hyl:=h.lvlt (List.mem_cons_of_mem _ hy)
  exact hy'.keep hX.1 (hX.2 _ (by have:=hy'.gb;omega) hyl.1) (fun k hk=>hX.2 k (by have:=hy'.gb;have:=hy'.lt k hk;omega) (hyl.2 k hk)) hp hq
 ·
  have hk:=h.lvlt (List.mem_cons_self ..)
  refine hl.vk.repk.keep (fun c hc hlc=> ?_) (fun c hc hlc=> ?_)
  ·
   rcases hc with hc | hc
   ·
    exact hp c hc hlc
   ·
    exact hX.2 c (by have:=hl.gb;have:=hl.lt c hc.symm;omega) hlc
  ·
   rcases hc with hc | hc
   ·
    exact hq c hc hlc
   ·
    intro hm
    have h1:=hl.lt c hc.symm
    have h2:=hl.gb
    have h7:=h.hb0
    rcases hm with e | e | ⟨y,hy,e⟩
    ·
     omega
    ·
     exact((h.ovne (e.trans ha).symm).2 l (List.mem_cons_self ..)).2 hc.symm
    ·
     have hyo:=ho.1 y hy
     rcases e with e | e
     ·
      omega
     ·
      have:=hyo.2 c e.symm;omega
theorem root_leaf (h:BT B0 g W0 W [] ov rn ra rk tx nn rt) {W3:World} (x:Node) (xa xk:Value) (hX:Exc g W W3)
  (hg3:W3.heap[g]? =some (.cells #[.slice none 0 0,.int .i64 x.kind,.string (bs x.name),.string (bs x.text),xa,xk,.slice none 0 0,ov,.string (bs tx),.int .i64 nn,.bool true] 73 (0,0)))
  (hxa:Rep W (fun b=>¬Mut B0 g ov [] b) xa (attrsD x.attrs)) (hxk:Rep W (fun b=>¬Mut B0 g ov [] b) xk (nodesD x.kids)):BT B0 g W0 W3 [] ov x xa xk tx nn true:=by
 have hp:∀c,¬Mut B0 g ov [] c→c< W.heap.size→W3.heap[c]? =W.heap[c]? :=fun c hc hlc=>hX.2 c (fun e=>hc (.inl (.inr e))) hlc
 exact⟨Exc.to hX h.ext h.hg,h.hg,h.hb0,hg3,xrows_exc h.row hX (Nat.lt_succ_self _),(fun y hy=>by cases hy),.nil,hxa.keep hp fun b hb _=>hb,hxk.keep hp fun b hb _=>hb⟩
end
end Go.Proofs.YtcfibjiikhnfhaaGreatDoor
