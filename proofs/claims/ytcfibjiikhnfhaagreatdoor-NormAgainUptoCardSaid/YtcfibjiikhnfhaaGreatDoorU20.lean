/-
 The lexer's end,attribute. Helper lemmas;no statement of the seat is proved here.
-/
import Derived.Test.YtcfibjiikhnfhaaGreatDoorU19
namespace Go.Proofs.YtcfibjiikhnfhaaGreatDoor
open Go.RowKit
set_option maxHeartbeats 32000000
set_option maxRecDepth 100000
set_option linter.unusedVariables false
set_option linter.unusedSimpArgs false
theorem nameS_lt {s:Bytes} {p:Nat} (h:0< nameS (s.drop p)):p+nameS (s.drop p)≤s.length∧p< s.length:=by
 have h1:=nmL_le (s.drop p).length true (s.drop p)
 unfold nameS at*
 rw[List.length_drop]at*
 omega
def EndR (s:Bytes) (i:Nat) (nm:Bytes) (e:Nat):Prop:=∃(n b:Nat) (rr:Bytes),nameS (s.drop (i+2))=n∧0< n∧blS (s.drop (i+2+n))=b∧s.drop (i+2+n+b)=62::rr∧nm=(s.drop (i+2)).take n∧e=i+2+n+b+1
def AttR (s:Bytes) (p:Nat) (a:Attr) (e:Nat):Prop:=∃(n b1 b2:Nat) (q:UInt8) (y r1 rr:Bytes),nameS (s.drop p)=n∧0< n∧a.n=(s.drop p).take n∧blS (s.drop (p+n))=b1∧s.drop (p+n+b1)=61::r1∧blS (s.drop (p+n+b1+1))=b2∧(q=34∨q=39)∧s.drop (p+n+b1+1+b2)=q::(y++q::rr)∧PcR (plV q) y a.v∧e=p+n+b1+1+b2+y.length+2
section
variable {g r q:Nat} {T:TypeId} {W W' w w':World} {s:Bytes} {i j:Nat} {bv ov:Value} {z t:Array Value}
theorem end_any (h:SB g W s i bv ov) (nm:Bytes) (e:Nat) (hR:EndR s i nm e):Calls Tryz.prog 156 #[.pointer (some ⟨g,0,none⟩)] W fun ed w'=>ed= .returned (.agg #[.int .i64 3,.int .i64 i,.string (bs nm),.string ⟨#[]⟩,.slice none 0 0])∧SB g w' s e bv ov∧Exc g W w':=by
 obtain⟨n,b,rr,hn,hn0,hb,hd,rfl,rfl⟩:=hR
 obtain⟨hnl,hil⟩:=nameS_lt (s:=s) (p:=i+2) (by omega)
 have hpl:=drop_lt hd
 have HN:=Lh (And.intro hn (And.intro hn0 (And.intro hb hd)))
 have HB1:=Lh (tb_begin2 h (j:=i+2) (by omega) #[.int .i64 3,.int .i64 (i:Nat),.string ⟨#[]⟩,.string ⟨#[]⟩,.slice none 0 0])
 have c1:(W.alloc (.cells #[.int .i64 0,.int .i64 0,.string ⟨#[]⟩,.string ⟨#[]⟩,.slice none 0 0] 75)).cell? ⟨g,1,none⟩=some (.int .i64 (i:Nat)):=((Ext.refl W).alloc _).keep h.lt h.c1
 have k1:=blk_cell (tb_begin h #[.int .i64 3,.int .i64 (i:Int),.string ⟨#[]⟩,.string ⟨#[]⟩,.slice none 0 0]).b (k:=1) rfl
 have j1:=blk_free (k:=1) (tb_begin h #[.int .i64 3,.int .i64 (i:Int),.string ⟨#[]⟩,.string ⟨#[]⟩,.slice none 0 0]).b
 have HH:=Lh h
 have hl:=h.hl
 have hlt:=h.lt
 obtain⟨nm,hnm⟩:∃x,(s.drop (i+2)).take n=x:=⟨_,rfl⟩
 rw[hnm]
 have HNM:=Lh hnm
 clear h hn hn0 hb hd hnm
 go_enter Tryz.func156,Tryz.ntmps156
 go_wp2_with fail
 obtain⟨r,hr⟩:∃r,W.heap.size=r:=⟨_,rfl⟩
 obtain⟨w1,hw1⟩:∃X,((W.setCell ⟨g,1,none⟩ (.int .i64 ((i:Int)+2))).alloc (.cells #[.int .i64 0,.int .i64 0,.string ⟨#[]⟩,.string ⟨#[]⟩,.slice none 0 0] 75)).alloc (.cells #[.int .i64 3,.int .i64 (i:Int),.string ⟨#[]⟩,.string ⟨#[]⟩,.slice none 0 0] 75)=X:=⟨_,rfl⟩
 have HB0:=HB1.out
 rw[hr,show(((i+2:Nat)):Int)=(i:Int)+2 from rfl,hw1]at HB0
 rw[hr,hw1]
 clear hw1 c1 k1 j1 HB1
 have HB2:=HB0
 clear HB0
 refine(xname_any (HB2.sb HH.out (by omega)) hil (by rw[HN.out.1];exact HN.out.2.1)).mono ?_
 rintro e w3 ⟨rfl,hS3,hX3⟩
 rw[HN.out.1,HNM.out]at*
 have HB3:=HB2.call hS3.blk hX3
 obtain⟨w4,hw4⟩:∃X,w3.setCell ⟨r+1,2,none⟩ (.string (bs nm))=X:=⟨_,rfl⟩
 have HB4:=HB3.set 2 (.string (bs nm))
 rw[hw4]at HB4
 simp only[List.setIfInBounds_toArray,List.set_cons_zero,List.set_cons_succ]at HB4
 have c2:=blk_cell HB3.r3 (k:=2) rfl
 have f2:=blk_free (k:=2) HB3.r3
 have HB5:=Lh HB4
 clear hS3 hX3 HB2 HB3 HB4
 go_wp2_with fail
 clear c2 f2
 refine(blanks_any (HB5.out.sb HH.out (by omega)) (by omega)).mono ?_
 rintro e w5 ⟨rfl,hS5,hX5⟩
 rw[HN.out.2.2.1]at hS5
 have HB6:=HB5.out.call hS5.blk hX5
 go_wp2_with fail
 refine(eat_any (HB6.sb HH.out (by omega)) [62] rr HN.out.2.2.2 (by simp)).mono ?_
 rintro e w6 ⟨rfl,hS6,hX6⟩
 have hT:=HB6.call hS6.blk hX6
 clear hS5 hX5 HB6 hS6 hX6 HB5 hw4
 have c0:=blk_cell hT.r3 (k:=0) rfl;have c1:=blk_cell hT.r3 (k:=1) rfl;have c2:=blk_cell hT.r3 (k:=2) rfl;have c3:=blk_cell hT.r3 (k:=3) rfl;have c4:=blk_cell hT.r3 (k:=4) rfl
 have d0:=blk_cell hT.r2 (k:=0) rfl;have d1:=blk_cell hT.r2 (k:=1) rfl;have d2:=blk_cell hT.r2 (k:=2) rfl;have d3:=blk_cell hT.r2 (k:=3) rfl;have d4:=blk_cell hT.r2 (k:=4) rfl
 have f0:=blk_free (k:=0) hT.r2;have f1:=blk_free (k:=1) hT.r2;have f2:=blk_free (k:=2) hT.r2;have f3:=blk_free (k:=3) hT.r2;have f4:=blk_free (k:=4) hT.r2
 obtain⟨w9,hw9⟩:∃X,((((w6.setCell ⟨r,0,none⟩ (.int .i64 3)).setCell ⟨r,1,none⟩ (.int .i64 (i:Nat))).setCell ⟨r,2,none⟩ (.string (bs nm))).setCell ⟨r,3,none⟩ (.string ⟨#[]⟩)).setCell ⟨r,4,none⟩ (.slice none 0 0)=X:=⟨_,rfl⟩
 have hb9:=st5t_blk hT.r2 (.int .i64 3) (.int .i64 (i:Nat)) (.string (bs nm)) (.string ⟨#[]⟩) (.slice none 0 0)
 have hx9:=hT.st (.int .i64 3) (.int .i64 (i:Nat)) (.string (bs nm)) (.string ⟨#[]⟩) (.slice none 0 0)
 unfold st5t at hb9 hx9
 rw[hw9]at hb9 hx9
 have HZ9:=Lh (And.intro hb9 hx9)
 clear hb9 hx9
 clear hT
 go_wp2_with fail
 refine bodyPost_ret (res_one rfl _ _ _ ⟨r,0,none⟩ ?_ (load_tok HZ9.out.1)) rfl ?_
 ·
  first | rfl | simp
 clear hw9
 have hX9:=HZ9.out.2
 exact⟨rfl,HH.out.exc hX9.1 hX9.2.1 (by omega),hX9.1⟩
theorem load_att {W:World} {b:Nat} {a0 a1:Value} (h:W.heap[b]? =some (.cells #[a0,a1] 114 (0,0))):(loadVar 114 ⟨b,0,none⟩).run Tryz.prog W= .ok (.agg #[a0,a1]) W:=by
 have c0:=blk_cell h (k:=0) rfl;have c1:=blk_cell h (k:=1) rfl
 go_simp
theorem xattribute_any (h:SB g W s i bv ov) (a:Attr) (e:Nat) (hR:AttR s i a e) (A:List Attr) (p:Nat→Prop) (va:Value) (hA:Rep W p va (attrsD A)) (hp:∀b,p b→b≠g) (hne:∀x∈A,x.n≠a.n):
  Calls Tryz.prog 203 #[.pointer (some ⟨g,0,none⟩),va] W fun ed w'=>ed= .returned (.agg #[.string (bs a.n),.string (bs a.v)])∧SB g w' s e bv ov∧Exc g W w':=by
 obtain⟨n,b1,b2,qq,yy,r1,rr,hn,hn0,han,hb1,hd1,hb2,hq,hd2,hv,rfl⟩:=hR
 obtain⟨hnl,hil⟩:=nameS_lt (s:=s) (p:=i) (by omega)
 have hpl1:=drop_lt hd1
 have hpl2:=drop_lt hd2
 obtain⟨aa,ac,rfl,hac,hac2⟩:=hA.count z_attr (by omega)
 have HN:=Lh (And.intro hn (And.intro hn0 (And.intro han (And.intro hb1 (And.intro hd1 (And.intro hb2 (And.intro hq (And.intro hd2 hv))))))))
 have HA:=Lh (And.intro hA (And.intro hp hne))
 have c1:(W.alloc (.cells #[.string ⟨#[]⟩,.string ⟨#[]⟩] 114)).cell? ⟨g,1,none⟩=some (.int .i64 (i:Nat)):=((Ext.refl W).alloc _).keep h.lt h.c1
 have HH:=Lh h
 have hl:=h.hl
 have hlt:=h.lt
 obtain⟨nm,hnm⟩:∃x,a.n=x:=⟨_,rfl⟩
 obtain⟨vv,hvv⟩:∃x,a.v=x:=⟨_,rfl⟩
 rw[hnm]at HN HA⊢
 rw[hvv]at HN⊢
 have hal:A.length≤9223372036854775807:=by omega
 clear h hA hp hne hn hn0 han hb1 hd1 hb2 hq hd2 hv hnm hvv
 go_enter Tryz.func203,Tryz.ntmps203
 go_wp2_with fail
 clear c1
 obtain⟨w1,hw1⟩:∃X,W.alloc (.cells #[.string ⟨#[]⟩,.string ⟨#[]⟩] 114)=X:=⟨_,rfl⟩
 obtain⟨r,hr⟩:∃r,W.heap.size=r:=⟨_,rfl⟩
 have hE1:Ext W w1:=by rw[←hw1];exact(Ext.refl W).alloc _
 have hb1:w1.heap[r]? =some (.cells #[.string ⟨#[]⟩,.string ⟨#[]⟩] 114 (0,0)):=by rw[←hw1,←hr];exact Array.getElem?_push_size ..
 rw[hw1,hr]
 have hSB1:=HH.out.ext hE1
 refine(xname_any hSB1 hil (by rw[HN.out.1];exact HN.out.2.1)).mono ?_
 rintro e w2 ⟨rfl,hS2,hX2⟩
 rw[HN.out.1,←HN.out.2.2.1]at*
 have hb2:=(hX2.2 r (by omega) (blk_lt hb1)).trans hb1
 obtain⟨w3,hw3⟩:∃X,w2.alloc (.cells #[.string (bs nm),.string ⟨#[]⟩] 114)=X:=⟨_,rfl⟩
 obtain⟨q,hq⟩:∃q,w2.heap.size=q:=⟨_,rfl⟩
 have hE3:Ext w2 w3:=by rw[←hw3];exact(Ext.refl w2).alloc _
 have hb3:w3.heap[q]? =some (.cells #[.string (bs nm),.string ⟨#[]⟩] 114 (0,0)):=by rw[←hw3,←hq];exact Array.getElem?_push_size ..
 have hrq:r< q:=by rw[←hq];exact blk_lt hb2
 have HB3:TB g r q 114 W w3 (i+n) bv ov #[.string ⟨#[]⟩,.string ⟨#[]⟩] #[.string (bs nm),.string ⟨#[]⟩]:=
  ⟨(Below.block hE3 g hS2.lt).trans hS2.blk,((Exc.of g hE1).trans hX2).ext hE3,(Below.block hE3 r (blk_lt hb2)).trans hb2,hb3,by omega,hrq,by omega⟩
 have HS:=Lh HB3
 have HW3:=Lh (And.intro hw3 hq)
 clear hw1 hE1 hb1 hSB1 hS2 hX2 hb2 hE3 hb3 HB3 hw3 hq
 go_wp2_with fail
 rw[HW3.out.2]
 rw[HW3.out.1]
 clear HW3
 go_loopw [8,18] (fun _ t wr=>∃k:Nat,t= .int .i64 k∧k≤A.length∧Hid (TB g r q 114 W wr (i+n) bv ov #[.string ⟨#[]⟩,.string ⟨#[]⟩] #[.string (bs nm),.string ⟨#[]⟩])) (fun _ t _=>downV A.length t)
 case atStart=>exact⟨0,rfl,Nat.zero_le _,HS⟩
 case round=>
  clear HS
  obtain⟨k,rfl,hk,HS⟩:=hrel
  by_cases hkl:k< A.length
  ·
   have hkI:(k:Int)< (A.length:Int):=by omega
   have hk0:(0:Int)≤(k:Int):=by omega
   obtain⟨ba,oa,rfl,hba,_,y0,y1⟩:=attr_at (HA.out.1.exc HA.out.2.1 HS.out.x) k hkl
   have hnn:((bs A[k].n).toList==(bs nm).toList)=false:=by rw[bs_toList,bs_toList,beq_eq_false_iff_ne];exact HA.out.2.2 _ (List.getElem_mem hkl)
   have hE:Ext wr (wr.alloc (.cells #[.string (bs A[k].n),.string (bs A[k].v)] 114)):=(Ext.refl _).alloc _
   have e0:=blk_cell (HS.out.ext hE).r3 (k:=0) rfl
   obtain⟨yn,hyn⟩:∃x,A[k].n=x:=⟨_,rfl⟩
   obtain⟨yv,hyv⟩:∃x,A[k].v=x:=⟨_,rfl⟩
   rw[hyn]at hnn y0 e0 hE
   rw[hyv]at y1 e0 hE
   clear hyn hyv
   go_wp2_with fail
   go_roundw
   case rel=>exact⟨k+1,by go_num,by omega,Lh (HS.out.ext hE)⟩
   case measure=>simp only[downV];omega
  ·
   have hkI:¬(k:Int)< (A.length:Int):=by omega
   go_wp2_with fail
   refine(blanks_any (HS.out.sb HH.out (by omega)) (by omega)).mono ?_
   rintro e w4 ⟨rfl,hS4,hX4⟩
   rw[HN.out.2.2.2.1]at*
   have HB4:=HS.out.call hS4.blk hX4
   go_wp2_with fail
   refine(eat_any (HB4.sb HH.out (by omega)) [61] r1 HN.out.2.2.2.2.1 (by simp)).mono ?_
   rintro e w5 ⟨rfl,hS5,hX5⟩
   have HB5:=HB4.call hS5.blk hX5
   go_wp2_with fail
   replace hS5:SB g w5 s (i+n+b1+1) bv ov:=hS5
   refine(blanks_any hS5 (by omega)).mono ?_
   rintro e w6 ⟨rfl,hS6,hX6⟩
   rw[HN.out.2.2.2.2.2.1]at*
   have HB6:=HB5.call hS6.blk hX6
   go_wp2_with fail
   refine(xvalue_any hS6 qq yy vv rr HN.out.2.2.2.2.2.2.1 HN.out.2.2.2.2.2.2.2.1 HN.out.2.2.2.2.2.2.2.2).mono ?_
   rintro e w7 ⟨rfl,hS7,hX7⟩
   have HB7:=HB6.call hS7.blk hX7
   have hle:i+n+b1+1+b2+yy.length+2≤s.length:=hS7.hi
   obtain⟨w8,hw8⟩:∃X,w7.setCell ⟨q,1,none⟩ (.string (bs vv))=X:=⟨_,rfl⟩
   have HB8:=HB7.set 1 (.string (bs vv))
   rw[hw8]at HB8
   simp only[List.setIfInBounds_toArray,List.set_cons_zero,List.set_cons_succ]at HB8
   have m0:=blk_cell HB7.r3 (k:=0) rfl;have m1:=blk_cell HB7.r3 (k:=1) rfl
   have n0:=blk_free (k:=0) HB7.r3;have n1:=blk_free (k:=1) HB7.r3
   have c0:=blk_cell HB8.r3 (k:=0) rfl;have c1:=blk_cell HB8.r3 (k:=1) rfl
   have d0:=blk_cell HB8.r2 (k:=0) rfl;have d1:=blk_cell HB8.r2 (k:=1) rfl
   have f0:=blk_free (k:=0) HB8.r2;have f1:=blk_free (k:=1) HB8.r2
   obtain⟨w9,hw9⟩:∃X,(w8.setCell ⟨r,0,none⟩ (.string (bs nm))).setCell ⟨r,1,none⟩ (.string (bs vv))=X:=⟨_,rfl⟩
   have hb9:w9.heap[r]? =some (.cells #[.string (bs nm),.string (bs vv)] 114 (0,0)):=by rw[←hw9];exact blk_setc (blk_setc HB8.r2)
   have hx9:Exc g W w9:=by rw[←hw9];exact(HB8.x.new HB8.hr 0 _).new HB8.hr 1 _
   have hg9:w9.heap[g]? =some (.cells #[bv,.int .i64 (i+n+b1+1+b2+yy.length+2:Nat),ov] 122 (0,0)):=by rw[←hw9];exact(Below.heap_setCell _ _ _ _ (by have:=HB8.hg;simp only;omega)).trans ((Below.heap_setCell _ _ _ _ (by have:=HB8.hg;simp only;omega)).trans HB8.b)
   have HZ9:=Lh (And.intro hb9 (And.intro hx9 hg9))
   clear hS4 hX4 HB4 hS5 hX5 HB5 hS6 hX6 HB6 hS7 hX7 HB7 HB8 hb9 hx9 hg9 HS
   go_wp2_with fail
   refine bodyPost_ret (res_one rfl _ _ _ ⟨r,0,none⟩ ?_ (load_att HZ9.out.1)) rfl ?_
   ·
    first | rfl | simp
   clear hw9
   exact⟨rfl,HH.out.exc HZ9.out.2.1 HZ9.out.2.2 hle,HZ9.out.2.1⟩
end
def Sc (b o:Nat) (u:Value) (w:World):Prop:=w.cell? ⟨b,o,none⟩=some u
section
variable {b o g:Nat} {u:Value} {w w':World}
theorem Sc.cell (h:Sc b o u w) (_ _:True):w.cell? ⟨b,o,none⟩=some u:=h
theorem Sc.lt (h:Sc b o u w):b< w.heap.size:=World.block_lt_of_cell? w ⟨b,o,none⟩ h
theorem sc_ext (h:Sc b o u w) (hE:Ext w w'):Sc b o u w':=hE.keep h.lt h
theorem sc_exc (h:Sc b o u w) (hg:b≠g) (hX:Exc g w w'):Sc b o u w':=(World.cell?_of_block (a:=⟨b,o,none⟩) (hX.2 b hg h.lt)).trans h
theorem sc_grown (h:Sc b o u w) {row:Option Nat} (hg:w.grownBy w' row) (hn:some b≠row):Sc b o u w':=(World.cell?_of_block (a:=⟨b,o,none⟩) (hg.block b h.lt hn)).trans h
theorem blk_chain {q:Nat} {wz xq xb xc:World} {ob:Obj} {row:Option Nat} (h:wz.heap[q]? =some ob) (h1:Exc g wz xq) (hg:q≠g) (h2:Ext xq xb) (h3:xb.grownBy xc row) (hn:some q≠row):xc.heap[q]? =some ob:=by
 have e1:=(h1.2 q hg (blk_lt h)).trans h
 have e2:=(Below.block h2 q (blk_lt e1)).trans e1
 exact(h3.block q (blk_lt e2) hn).trans e2
end
theorem s1Attrs:∀W,(sizeOf 23).run Tryz.prog W= .ok 1 W:=fun W=>by go_simp
inductive TagR (s:Bytes):Nat→List Attr→Int→List Attr→Nat→Prop
 | gt (p:Nat) (A:List Attr) (r:Bytes) (h:s.drop (p+blS (s.drop p))=62::r):TagR s p A 1 A (p+blS (s.drop p)+1)
 | sl (p:Nat) (A:List Attr) (r:Bytes) (h:s.drop (p+blS (s.drop p))=47::62::r):TagR s p A 2 A (p+blS (s.drop p)+2)
 | at' (p:Nat) (A:List Attr) (k:Int) (B:List Attr) (e:Nat) (a:Attr) (p2:Nat) (c:UInt8) (r:Bytes) (hb:0< blS (s.drop p)) (hc:s.drop (p+blS (s.drop p))=c::r) (h1:c≠62) (h2:c≠47)
   (ha:AttR s (p+blS (s.drop p)) a p2) (hn:∀x∈A,x.n≠a.n) (h:TagR s p2 (A++ [a]) k B e):TagR s p A k B e
theorem TagR.head {s:Bytes} {p:Nat} {A:List Attr} {k:Int} {B:List Attr} {e:Nat} (h:TagR s p A k B e):∃c r,s.drop (p+blS (s.drop p))=c::r:=by
 cases h with
 | gt _ _ r h=>exact⟨_,_,h⟩
 | sl _ _ r h=>exact⟨_,_,h⟩
 | at' _ _ _ _ _ a p2 c r hb hc h1 h2 ha hn h=>exact⟨_,_,hc⟩
theorem TagR.inv {s:Bytes} {p:Nat} {A:List Attr} {k:Int} {B:List Attr} {e:Nat} (h:TagR s p A k B e):
  (∃r,s.drop (p+blS (s.drop p))=62::r∧1=k∧A=B∧p+blS (s.drop p)+1=e)∨(∃r,s.drop (p+blS (s.drop p))=47::62::r∧2=k∧A=B∧p+blS (s.drop p)+2=e)∨
  ∃(a:Attr) (p2:Nat) (c:UInt8) (r:Bytes),0< blS (s.drop p)∧s.drop (p+blS (s.drop p))=c::r∧c≠62∧c≠47∧AttR s (p+blS (s.drop p)) a p2∧(∀x∈A,x.n≠a.n)∧TagR s p2 (A++ [a]) k B e:=by
 cases h with
 | gt _ _ r h=>exact .inl ⟨r,h,rfl,rfl,rfl⟩
 | sl _ _ r h=>exact .inr (.inl ⟨r,h,rfl,rfl,rfl⟩)
 | at' _ _ _ _ _ a p2 c r hb hc h1 h2 ha hn h=>exact .inr (.inr ⟨a,p2,c,r,hb,hc,h1,h2,ha,hn,h⟩)
def TkRet (g:Nat) (W:World) (s:Bytes) (e:Nat) (bv ov:Value) (kind:Int) (at':Nat) (name text:Bytes) (attrs:List Attr) (ed:Ending) (w':World):Prop:=
 ∃va,ed= .returned (.agg #[.int .i64 kind,.int .i64 at',.string (bs name),.string (bs text),va])∧Rep w' (fun b=>W.heap.size≤b) va (attrsD attrs)∧SB g w' s e bv ov∧Exc g W w'
section
variable {g:Nat} {W W' w w':World} {s:Bytes} {i j:Nat} {bv ov:Value}
theorem Own.rep' {w:World} {base z n:Nat} {e:TypeId} {v:Value} {es:List DV} (h:Own w (fun _=>False) base e z v n es):Rep w (fun b=>base≤b) v (.s z es):=h.rep.ok fun b hb=>hb.elim (fun h=>h.elim) id
theorem Own.xexc {w w':World} {base z n:Nat} {e:TypeId} {v:Value} {es:List DV} (h:Own w (fun _=>False) base e z v n es) (hX:Exc g w w') (hg:g< base):Own w' (fun _=>False) base e z v n es:=by
 obtain⟨us,h1,h2⟩:=h
 exact⟨us,xrows_exc h1 hX hg,(h2.kept fun b hb=>hb.1.elim).ok fun b hb=>hb.1.elim⟩
theorem tag_any (h:SB g W s i bv ov) (n:Nat) (nm:Bytes) (k:Int) (B:List Attr) (e:Nat) (hn:nameS (s.drop (i+1))=n) (hn0:0< n) (hnm:nm=(s.drop (i+1)).take n) (hT:TagR s (i+1+n) [] k B e):
  Calls Tryz.prog 157 #[.pointer (some ⟨g,0,none⟩)] W (TkRet g W s e bv ov k i nm [] B):=by
 obtain⟨i0,hi,hz0,hz1,hz2⟩:=info_parts infoAttr
 obtain⟨hnl,hil⟩:=nameS_lt (s:=s) (p:=i+1) (by omega)
 have HN:=Lh (And.intro hn (And.intro hn0 (And.intro hnm hT)))
 have HB1:=Lh (tb_begin2 h (j:=i+1) (by omega) #[.int .i64 1,.int .i64 (i:Nat),.string ⟨#[]⟩,.string ⟨#[]⟩,.slice none 0 0])
 have c1:(W.alloc (.cells #[.int .i64 0,.int .i64 0,.string ⟨#[]⟩,.string ⟨#[]⟩,.slice none 0 0] 75)).cell? ⟨g,1,none⟩=some (.int .i64 (i:Nat)):=((Ext.refl W).alloc _).keep h.lt h.c1
 have k1:=blk_cell (tb_begin h #[.int .i64 1,.int .i64 (i:Int),.string ⟨#[]⟩,.string ⟨#[]⟩,.slice none 0 0]).b (k:=1) rfl
 have j1:=blk_free (k:=1) (tb_begin h #[.int .i64 1,.int .i64 (i:Int),.string ⟨#[]⟩,.string ⟨#[]⟩,.slice none 0 0]).b
 have HH:=Lh h
 have hl:=h.hl
 have hlt:=h.lt
 obtain⟨bb,off,bc,rfl,hcap,hbc⟩:=h.slice (by omega)
 clear h hn hn0 hnm hT
 go_enter Tryz.func157,Tryz.ntmps157
 go_wp2_with fail
 obtain⟨r,hr⟩:∃r,W.heap.size=r:=⟨_,rfl⟩
 obtain⟨w1,hw1⟩:∃X,((W.setCell ⟨g,1,none⟩ (.int .i64 ((i:Int)+1))).alloc (.cells #[.int .i64 0,.int .i64 0,.string ⟨#[]⟩,.string ⟨#[]⟩,.slice none 0 0] 75)).alloc (.cells #[.int .i64 1,.int .i64 (i:Int),.string ⟨#[]⟩,.string ⟨#[]⟩,.slice none 0 0] 75)=X:=⟨_,rfl⟩
 have HB0:=HB1.out
 rw[hr,show(((i+1:Nat)):Int)=(i:Int)+1 from rfl,hw1]at HB0
 rw[hr,hw1]
 clear hw1 c1 k1 j1 HB1
 refine(xname_any (HB0.sb HH.out (by omega)) hil (by rw[HN.out.1];exact HN.out.2.1)).mono ?_
 rintro e w3 ⟨rfl,hS3,hX3⟩
 rw[HN.out.1,←HN.out.2.2.1]at*
 have HB3:=HB0.call hS3.blk hX3
 obtain⟨q,hq⟩:∃q,r+1=q:=⟨_,rfl⟩
 rw[hq]at HB3⊢
 obtain⟨w4,hw4⟩:∃X,w3.setCell ⟨q,2,none⟩ (.string (bs nm))=X:=⟨_,rfl⟩
 have HB4:=HB3.set 2 (.string (bs nm))
 rw[hw4]at HB4
 simp only[List.setIfInBounds_toArray,List.set_cons_zero,List.set_cons_succ]at HB4
 have c2:=blk_cell HB3.r3 (k:=2) rfl
 have f2:=blk_free (k:=2) HB3.r3
 obtain⟨base,hbase⟩:∃b,w4.heap.size=b:=⟨_,rfl⟩
 have hqb:q< base:=by rw[←hbase];exact blk_lt HB4.r3
 have hrq:=HB4.hq
 have hgr:=HB4.hg
 have hwr:=HB4.hr
 have HS:Hid (TB g r q 75 W w4 (i+1+n) (.slice (some ⟨bb,off,none⟩) s.length bc) ov #[.int .i64 0,.int .i64 0,.string ⟨#[]⟩,.string ⟨#[]⟩,.slice none 0 0] #[.int .i64 1,.int .i64 (i:Nat),.string (bs nm),.string ⟨#[]⟩,.slice none 0 0]∧Own w4 (fun _=>False) base 114 2 (.slice none 0 0) (([]:List Attr).length) (([]:List Attr).flatMap attrC)∧TagR s (i+1+n) [] k B e):=Lh ⟨HB4,Own.nil _ _ _ _ _,HN.out.2.2.2⟩
 have hb4:base≤w4.heap.size:=by omega
 clear hS3 hX3 HB0 HB3 HB4 hbase hq
 go_wp2_with fail
 clear c2 f2 hw4
 go_loopw [4,34,44] (fun _ _ _ wr=>∃(p:Nat) (A:List Attr) (dv:Value),base≤wr.heap.size∧A.length≤p∧Hid (TB g r q 75 W wr p (.slice (some ⟨bb,off,none⟩) s.length bc) ov #[.int .i64 0,.int .i64 0,.string ⟨#[]⟩,.string ⟨#[]⟩,.slice none 0 0] #[.int .i64 1,.int .i64 (i:Nat),.string (bs nm),.string ⟨#[]⟩,dv]∧Own wr (fun _=>False) base 114 2 dv A.length (A.flatMap attrC)∧TagR s p A k B e)) (fun _ _ _ wr=>atQ s.length g wr)
 case atStart=>exact⟨_,[],_,hb4,Nat.zero_le _,HS⟩
 case round=>
  clear HS
  obtain⟨p,A,dv,hbw,hAp,HI⟩:=hrel
  obtain⟨da,dc,rfl,hdc,hdc2⟩:=HI.out.2.1.form
  obtain⟨c,rr,hhd⟩:=HI.out.2.2.head
  obtain⟨m,hm⟩:∃m,p+blS (s.drop p)=m:=⟨_,rfl⟩
  rw[hm]at hhd
  have hml:=drop_lt hhd
  have hsm:s[m]'hml=c:=drop_byte hhd
  have hpm:p≤m:=by omega
  have hle:=HI.out.1.sb HH.out (by omega)
  have HMZ:=Lh (show atQ s.length g wr=s.length - p by simp only[atQ,hle.c1];rfl)
  clear hle
  have hSr:=HI.out.1.sb HH.out (by omega)
  have HQ:=Lh (blanks_any hSr (by omega))
  obtain⟨bq,hbq⟩:∃b,decide (0< blS (s.drop p))=b:=⟨_,rfl⟩
  have HM:=Lh (And.intro hm hbq)
  rw[hm,hbq]at HQ
  clear hm hbq hSr hhd
  go_wp2_with fail
  refine HQ.out.mono ?_
  rintro e w5 ⟨rfl,hS5,hX5⟩
  clear HQ
  have HJ:=Lh (And.intro (HI.out.1.call hS5.blk hX5) (HI.out.2.1.xexc hX5 (by omega)))
  have hb5:base≤w5.heap.size:=Nat.le_trans hbw hX5.1
  have HN5:=Lh (need_any hS5 hml)
  clear hS5 hX5
  go_wp2_with fail
  refine HN5.out.mono ?_
  rintro e w6 ⟨rfl,hE6⟩
  clear HN5
  replace HJ:=Lh (And.intro (HJ.out.1.ext hE6) (HJ.out.2.ext hE6))
  have hb6:base≤w6.heap.size:=Nat.le_trans hb5 hE6.size
  have hS6:=HJ.out.1.sb HH.out (by omega)
  have c0:=hS6.c0;have c1:=hS6.c1
  obtain⟨hbl,cm⟩:=hS6.byte hml
  rw[hsm]at cm
  obtain⟨x,hx⟩:∃x:Nat,c.toNat=x:=⟨_,rfl⟩
  have hxl:c.toNat< 256:=UInt8.toNat_lt _
  rw[hx]at cm hxl
  clear hE6 hS6
  go_wp2_with fail
  go_quiet (fail)
  obtain⟨wz,hwz⟩:∃w,w6.drewN nq=w:=⟨_,rfl⟩
  have Ehwz:Ext w6 wz:=by rw[←hwz];exact(Ext.refl w6).drewN _
  rw[hwz]
  have HZ:=Lh (And.intro (HJ.out.1.ext Ehwz) (HJ.out.2.ext Ehwz))
  have hbz:base≤wz.heap.size:=Nat.le_trans hb6 Ehwz.size
  have HG:=Lh HI.out.2.2
  clear hwz Ehwz c0 c1 cm hbl HJ hb6 hb5 hbw HI
  have hG:=HG.out.inv
  clear HG
  rw[HM.out.1]at hG
  rcases hG with⟨rg,hg1,rfl,rfl,rfl⟩ | ⟨rg,hg1,rfl,rfl,rfl⟩ | ⟨a,p2,c2,rg,hb0,hc2,h62,h47,ha,hne,hrest⟩
  ·
   obtain rfl:x=62:=by rw[←hx,←hsm,drop_byte hg1];rfl
   have hT0:=HZ.out.1
   have hO0:=HZ.out.2
   have k1:=blk_cell hT0.b (k:=1) rfl
   have j1:=blk_free (k:=1) hT0.b
   obtain⟨w7,hw7⟩:∃X,wz.setCell ⟨g,1,none⟩ (.int .i64 ((m:Int)+1))=X:=⟨_,rfl⟩
   have hT:TB g r q 75 W w7 (m+1) (.slice (some ⟨bb,off,none⟩) s.length bc) ov #[.int .i64 0,.int .i64 0,.string ⟨#[]⟩,.string ⟨#[]⟩,.slice none 0 0] #[.int .i64 1,.int .i64 (i:Nat),.string (bs nm),.string ⟨#[]⟩,(.slice da A.length dc)]:=by rw[←hw7];exact hT0.at (m+1)
   have hO:=hO0.xexc (w':=w7) (by rw[←hw7];exact(Exc.refl g wz).set rfl _) (by omega)
   have c0:=blk_cell hT.r3 (k:=0) rfl;have c1:=blk_cell hT.r3 (k:=1) rfl;have c2:=blk_cell hT.r3 (k:=2) rfl;have c3:=blk_cell hT.r3 (k:=3) rfl;have c4:=blk_cell hT.r3 (k:=4) rfl
   have d0:=blk_cell hT.r2 (k:=0) rfl;have d1:=blk_cell hT.r2 (k:=1) rfl;have d2:=blk_cell hT.r2 (k:=2) rfl;have d3:=blk_cell hT.r2 (k:=3) rfl;have d4:=blk_cell hT.r2 (k:=4) rfl
   have f0:=blk_free (k:=0) hT.r2;have f1:=blk_free (k:=1) hT.r2;have f2:=blk_free (k:=2) hT.r2;have f3:=blk_free (k:=3) hT.r2;have f4:=blk_free (k:=4) hT.r2
   obtain⟨w9,hw9⟩:∃X,((((w7.setCell ⟨r,0,none⟩ (.int .i64 1)).setCell ⟨r,1,none⟩ (.int .i64 (i:Nat))).setCell ⟨r,2,none⟩ (.string (bs nm))).setCell ⟨r,3,none⟩ (.string ⟨#[]⟩)).setCell ⟨r,4,none⟩ (.slice da A.length dc)=X:=⟨_,rfl⟩
   have hb9:=st5t_blk hT.r2 (.int .i64 1) (.int .i64 (i:Nat)) (.string (bs nm)) (.string ⟨#[]⟩) (.slice da A.length dc)
   have hx9:=hT.st (.int .i64 1) (.int .i64 (i:Nat)) (.string (bs nm)) (.string ⟨#[]⟩) (.slice da A.length dc)
   unfold st5t at hb9 hx9
   rw[hw9]at hb9 hx9
   have HZ9:=Lh (And.intro hb9 hx9)
   clear hb9 hx9
   have HO:=Lh hO.rep'
   clear hT hT0 hO0 hO hsm
   go_wp2_with fail
   refine bodyPost_ret (res_one rfl _ _ _ ⟨r,0,none⟩ ?_ (load_tok HZ9.out.1)) rfl ?_
   ·
    first | rfl | simp
   clear hw9
   have hX9:=HZ9.out.2
   exact⟨_,rfl,(HO.out.kept fun b hb _=>hX9.2.2 b (by omega)).ok fun b hb=>by omega,HH.out.exc hX9.1 hX9.2.1 (by omega),hX9.1⟩
  ·
   obtain rfl:x=47:=by rw[←hx,←hsm,drop_byte hg1];rfl
   have HE:=Lh (eat_any (HZ.out.1.sb HH.out (by omega)) [47,62] rg hg1 (by simp))
   clear hsm
   go_wp2_with fail
   refine HE.out.mono ?_
   rintro e w7 ⟨rfl,hS7,hX7⟩
   replace hS7:SB g w7 s (m+2) (.slice (some ⟨bb,off,none⟩) s.length bc) ov:=hS7
   have hT7:=HZ.out.1.call hS7.blk hX7
   have hO:=HZ.out.2.xexc hX7 (by omega)
   have hme:=hS7.hi
   have k0:=blk_cell hT7.r3 (k:=0) rfl
   have j0:=blk_free (k:=0) hT7.r3
   obtain⟨w8,hw8⟩:∃X,w7.setCell ⟨q,0,none⟩ (.int .i64 2)=X:=⟨_,rfl⟩
   have hT:=hT7.set 0 (.int .i64 2)
   rw[hw8]at hT
   simp only[List.setIfInBounds_toArray,List.set_cons_zero,List.set_cons_succ]at hT
   have hO8:Rep w8 (fun b=>base≤b) (.slice da A.length dc) (attrsD A):=by rw[←hw8];exact hO.rep'.kept fun b hb _=>Below.heap_setCell _ _ _ _ (by simp only;omega)
   have c0:=blk_cell hT.r3 (k:=0) rfl;have c1:=blk_cell hT.r3 (k:=1) rfl;have c2:=blk_cell hT.r3 (k:=2) rfl;have c3:=blk_cell hT.r3 (k:=3) rfl;have c4:=blk_cell hT.r3 (k:=4) rfl
   have d0:=blk_cell hT.r2 (k:=0) rfl;have d1:=blk_cell hT.r2 (k:=1) rfl;have d2:=blk_cell hT.r2 (k:=2) rfl;have d3:=blk_cell hT.r2 (k:=3) rfl;have d4:=blk_cell hT.r2 (k:=4) rfl
   have f0:=blk_free (k:=0) hT.r2;have f1:=blk_free (k:=1) hT.r2;have f2:=blk_free (k:=2) hT.r2;have f3:=blk_free (k:=3) hT.r2;have f4:=blk_free (k:=4) hT.r2
   obtain⟨w9,hw9⟩:∃X,((((w8.setCell ⟨r,0,none⟩ (.int .i64 2)).setCell ⟨r,1,none⟩ (.int .i64 (i:Nat))).setCell ⟨r,2,none⟩ (.string (bs nm))).setCell ⟨r,3,none⟩ (.string ⟨#[]⟩)).setCell ⟨r,4,none⟩ (.slice da A.length dc)=X:=⟨_,rfl⟩
   have hb9:=st5t_blk hT.r2 (.int .i64 2) (.int .i64 (i:Nat)) (.string (bs nm)) (.string ⟨#[]⟩) (.slice da A.length dc)
   have hx9:=hT.st (.int .i64 2) (.int .i64 (i:Nat)) (.string (bs nm)) (.string ⟨#[]⟩) (.slice da A.length dc)
   unfold st5t at hb9 hx9
   rw[hw9]at hb9 hx9
   have HZ9:=Lh (And.intro hb9 hx9)
   clear hb9 hx9
   have HO:=Lh hO8
   clear hT hT7 hO hO8 HE hS7 hX7
   go_wp2_with fail
   refine bodyPost_ret (res_one rfl _ _ _ ⟨r,0,none⟩ ?_ (load_tok HZ9.out.1)) rfl ?_
   ·
    first | rfl | simp
   clear hw9
   have hX9:=HZ9.out.2
   exact⟨_,rfl,(HO.out.kept fun b hb _=>hX9.2.2 b (by omega)).ok fun b hb=>by omega,HH.out.exc hX9.1 hX9.2.1 hme,hX9.1⟩
  ·
   obtain rfl:bq=true:=by rw[←HM.out.2];exact decide_eq_true (by have:=HM.out.1;omega)
   obtain rfl:c2=c:=by rw[←drop_byte hc2];exact hsm
   have x62:((x:Int)==62)=false:=by rw[←hx];exact u8_ne (k:=62) (by decide) (by rw[bne_iff_ne];exact h62)
   have x47:((x:Int)==47)=false:=by rw[←hx];exact u8_ne (k:=47) (by decide) (by rw[bne_iff_ne];exact h47)
   have hTz:=HZ.out.1
   obtain⟨us,hrz,hpz⟩:=HZ.out.2
   have c4:=blk_cell hTz.r3 (k:=4) rfl
   have hgq:q≠g:=by omega
   have hgb:g< base:=by omega
   have hbb:base≤(World.drew wz).heap.size:=hbz
   have hqo:some q≠Value.ownBlock (.slice da A.length dc):=fun e=>by have:=(hrz.lt q e.symm).1;omega
   have hSd:=(hTz.sb HH.out (by omega)).ext ((Ext.refl wz).drew)
   have hp2:m< p2∧p2≤s.length:=by
    obtain⟨n,b1,b2,qq,yy,r1,r2,_,_,_,_,_,_,_,hd2,_,rfl⟩:=ha
    have e:=congrArg List.length hd2
    simp only[List.length_drop,List.length_cons,List.length_append]at e
    omega
   have hall:a.n.length≤9223372036854775807∧a.v.length≤9223372036854775807:=by
    obtain⟨n,b1,b2,qq,yy,r1,r2,hn,hn0,han,_,_,_,_,hd2,hpc,rfl⟩:=ha
    have e:=congrArg List.length hd2
    have e2:=hpc.len
    simp only[List.length_drop,List.length_cons,List.length_append]at e
    rw[han,List.length_take]
    omega
   have HC:=Lh (xattribute_any hSd a p2 ha A (fun b=>base≤b) (.slice da A.length dc) ((HZ.out.2.ext ((Ext.refl wz).drew)).rep') (fun b hb=>by omega) hne)
   go_wp2_with fail
   refine region_merge (fun ac ac' w'=>∃(gb:Nat) (v3:Value) (xb:World) (xc:World) (xq:World),ac'=(((((((((ac.put (some 57) (.pointer (some ⟨q,4,none⟩))).put (some 58) (.slice da A.length dc)).put (some 59) (.pointer (some ⟨g,0,none⟩))).put (some 60) (.pointer (some ⟨q,4,none⟩))).put (some 61) (.slice da A.length dc)).put (some 62) (.agg #[.string (bs a.n),.string (bs a.v)])).put (some 63) (.slice (some ⟨gb,0,none⟩) 1 1)).put (some 64) (v3)).put (some 65) (.pointer (some ⟨q,4,none⟩)))∧w'=xc.setCell ⟨q,4,none⟩ v3∧SB g xq s p2 (.slice (some ⟨bb,off,none⟩) s.length bc) ov∧Exc g (World.drew wz) xq∧Ext xq xb∧World.ownsRow xc base 114 2 v3 (A.length+1) (us++ [.string (bs a.n),.string (bs a.v)])∧World.grownBy xb xc (Value.ownBlock (.slice da A.length dc))∧(v3.ownBlock=Value.ownBlock (.slice da A.length dc)∨v3.ownBlock=some xb.heap.size)) ?_ ?_
   ·
    refine rg_aside (S := Sc q 4 (.slice da A.length dc)) 9 ⟨none, .store 23 (.tmp 65) (.tmp 64), 0, "xlex.go:226", #[⟨8, .data⟩, ⟨7, .data⟩, ⟨7, .chain⟩, ⟨0, .phase⟩, ⟨1, .phase⟩, ⟨2, .phase⟩, ⟨3, .phase⟩, ⟨4, .phase⟩, ⟨5, .phase⟩, ⟨6, .phase⟩, ⟨7, .phase⟩], none⟩ (by kernel_rfl) (by decide) rfl rfl (by kernel_rfl) (by kernel_rfl) (show Sc q 4 (.slice da A.length dc) (World.drew wz) from c4) ?_
    have hSy:Sc q 4 (.slice da A.length dc) (World.drew wz):=(show Sc q 4 (.slice da A.length dc) (World.drew wz) from c4)
    simp only[List.setIfInBounds_toArray,List.set_cons_zero,List.set_cons_succ]
    refine rg_t 0 (some 57) (.pointer (some ⟨q,4,none⟩)) rfl hSy (fun w' hs=>by first | rfl | go_simp) ?_
    simp only[Act.put,sA,sZ,sS]
    refine rg_t 1 (some 58) (.slice da A.length dc) rfl hSy (fun w' hs=>by(have h0:=hs.cell trivial trivial;go_simp)) ?_
    simp only[Act.put,sA,sZ,sS]
    refine rg_t 2 (some 59) (.pointer (some ⟨g,0,none⟩)) rfl hSy (fun w' hs=>by rfl) ?_
    simp only[Act.put,sA,sZ,sS]
    refine rg_t 3 (some 60) (.pointer (some ⟨q,4,none⟩)) rfl hSy (fun w' hs=>by first | rfl | go_simp) ?_
    simp only[Act.put,sA,sZ,sS]
    refine rg_t 4 (some 61) (.slice da A.length dc) rfl hSy (fun w' hs=>by(have h0:=hs.cell trivial trivial;go_simp)) ?_
    simp only[Act.put,sA,sZ,sS]
    refine rg_one 5 (by kernel_rfl) ?_
    refine tk_call 5 (some 62) 203 #[.pointer (some ⟨g,0,none⟩),.slice da A.length dc] rfl rfl (by rfl) (fun w'=>by first | rfl | go_simp) (R:=fun v w'=>v= .agg #[.string (bs a.n),.string (bs a.v)]∧SB g w' s p2 (.slice (some ⟨bb,off,none⟩) s.length bc) ov∧Exc g (World.drew wz) w') ?_ ?_
    ·
     exact HC.out.mono fun ed w' ⟨he,h1,h2⟩=>⟨_,he,rfl,h1,h2⟩
    rintro _ xq ⟨rfl,hq1,hq2⟩
    have hSq:Sc q 4 (.slice da A.length dc) xq:=sc_exc hSy hgq hq2
    refine⟨hSq,?_⟩
    simp only[Act.put,sA,sZ,sS]
    refine rg_one 6 (by kernel_rfl) ?_
    refine tk_new 6 (some 63) (.cells #[.string (bs a.n),.string (bs a.v)] 114) (fun n=> .slice (some ⟨n,0,none⟩) 1 1) rfl rfl (by rfl) (by first | rfl | go_simp) ?_
    intro gb xb egb hxb hzxb hC
    have hSb:Sc q 4 (.slice da A.length dc) xb:=sc_ext hSq hxb
    refine⟨hSb,?_⟩
    simp only[Act.put,sA,sZ,sS]
    have hbse:base≤xb.heap.size:=Nat.le_trans hbb (Nat.le_trans hq2.1 hxb.size)
    refine rg_one 7 (by kernel_rfl) ?_
    refine tk_src 7 (some 64) rfl rfl (by rfl) (.tmp 58) (.tmp 63) 23 rfl base 114 i0 (.agg #[.string ⟨#[]⟩,.string ⟨#[]⟩]) 2 32 Tryz.underlying23 hi hz0 hz1 hz2 rfl (by decide) (.slice da A.length dc) A.length us rfl (rows_ext (xrows_exc (rows_ext hrz ((Ext.refl wz).drew)) hq2 hgb) hxb) (.slice (some ⟨gb,0,none⟩) 1 1) 1 [.string (bs a.n),.string (bs a.v)] rfl (Src.block hC rfl) (by intro u hu;simp at hu;rcases hu with rfl | rfl<;> rfl) (by unfold maxLen;omega) (by omega) hbse ?_
    intro v3 xc hr3 hg3 ha3
    have hSc:Sc q 4 (.slice da A.length dc) xc:=sc_grown hSb hg3 hqo
    refine⟨hSc,?_⟩
    simp only[Act.put,sA,sZ,sS]
    refine rg_t 8 (some 65) (.pointer (some ⟨q,4,none⟩)) rfl hSc (fun w' hs=>by first | rfl | go_simp) ?_
    simp only[Act.put,sA,sZ,sS]
    refine rg_t 9 none (.bool true) rfl hSc (fun w' hs=>by rfl) ?_
    simp only[Act.put,sA,sZ,sS]
    refine rg_done (by kernel_rfl) ?_
    obtain⟨v3a,v3c,rfl⟩:=own_form hr3
    have c4c:=hSc
    have f4c:=blk_free (k:=4) (blk_chain (wz:=World.drew wz) hTz.r3 hq2 hgq hxb hg3 hqo)
    refine qlast_normal ?_
    refine tk_write 9 none (xc.setCell ⟨q,4,none⟩ (.slice v3a (A.length+1) v3c)) (by rfl) rfl (by rfl) (exec_store rfl (store_slice _ s1Attrs c4c f4c _ _ _)) ?_
    exact⟨gb,(.slice v3a (A.length+1) v3c),xb,xc,xq,(by first | rfl | simp only[Act.put,sA,sZ,sS]),rfl,hq1,hq2,hxb,hr3,hg3,ha3⟩
   rintro _ w9 ⟨gb,v3,xb,xc,xq,rfl,hw9,hq1,hq2,hxb,hr3,hg3,ha3⟩
   simp only[Act.put,sA,sZ,sS]
   have HT9:=hTz.ext ((Ext.refl wz).drew)
   have HB9:=((HT9.call hq1.blk hq2).ext hxb).app hg3 (fun k hk=>by have:=(hrz.lt k hk).1;omega)
   have HC9:=HB9.set 4 v3
   simp only[List.setIfInBounds_toArray,List.set_cons_zero,List.set_cons_succ]at HC9
   have HO9:Own xc (fun _=>False) base 114 2 v3 (A++ [a]).length ((A++ [a]).flatMap attrC):=by
    rw[List.length_append,List.flatMap_append,List.flatMap_singleton,List.length_singleton]
    have hpn:Reps xb (fun b=>False∧some b≠Value.ownBlock (.slice da A.length dc)∧b< xb.heap.size) us (A.flatMap attrC):=((hpz.kept fun b hb=>hb.1.elim).ok fun b hb=>hb.1.elim)
    exact Own.push hpn (Reps.cons (Rep.string _ _ _ (by rw[bs_size];exact hall.1)) (Reps.cons (Rep.string _ _ _ (by rw[bs_size];exact hall.2)) (Reps.nil _ _))) hr3 hg3 ha3
   obtain⟨us9,hr9,hp9⟩:=HO9
   have HO9':Own w9 (fun _=>False) base 114 2 v3 (A++ [a]).length ((A++ [a]).flatMap attrC):=by
    rw[hw9]
    exact⟨us9,rows_set hr9 (p:=⟨q,4,none⟩) (fun e=>by have:=(hr9.lt q e.symm).1;omega) _,(hp9.kept fun b hb=>hb.1.elim).ok fun b hb=>hb.1.elim⟩
   rw[←hw9]at HC9
   have hs9:base≤w9.heap.size:=by rw[hw9];exact Nat.le_trans hbb (Nat.le_trans hq2.1 (Nat.le_trans hxb.size (by simpa using hg3.size)))
   have HE:=Lh (show atQ s.length g w9=s.length - p2 by simp only[atQ,blk_cell HC9.b (k:=1) rfl];rfl)
   have HR:=Lh (And.intro HC9 (And.intro HO9' hrest))
   clear hTz hrz hpz c4 hSd HC hw9 hq1 hq2 hxb hr3 hg3 ha3 HT9 HB9 HC9 hr9 hp9 HO9' hrest HZ
   go_wp2_with fail
   go_roundw
   case rel=>exact⟨p2,A++ [a],v3,hs9,by simp;omega,HR⟩
   case measure=>rw[HMZ.out,HE.out];omega
end
theorem ix_any {W:World} {p:Nat→Prop} {bb off bc:Nat} {s:Bytes} {i:Nat} (hrow:Rep W p (.slice (some ⟨bb,off,none⟩) s.length bc) (numsD .u8 (byI s))) (hcap:s.length≤bc) {t:Bytes} (hi:i< s.length) (ht:t≠ []) (hsl:s.length≤65536∧t.length≤65536) (w:World) (hE:Ext W w) (hmx:MaxV W) (cb tc:Nat) (hcb:∀(k:Nat) (hk:k< t.length),w.cell? ⟨cb,k,none⟩=some (.int .u8 (t[k].toNat:Int))):
  Calls Tryz.prog 193 #[.slice (some ⟨bb,off+i,none⟩) (s.length - i) (bc - i),.slice (some ⟨cb,0,none⟩) t.length tc] w fun e w'=>e= .returned (.int .i64 (Lib.index (s.drop i) t))∧Ext w w':=by
 obtain⟨m,hm⟩:=hmx.ext hE
 have hr:∀l:Bytes,∀x∈byI l,0≤x∧x< 256:=fun l x hx=>by
  obtain⟨c,_,rfl⟩:=List.mem_map.1 hx
  have:=UInt8.toNat_lt c
  omega
 refine(Tryz.bytes_Index_at ⟨bb,off+i,none⟩ ⟨cb,0,none⟩ (s.length - i) (bc - i) t.length tc (byI (s.drop i)) (byI t) m w (by rw[byI_len,List.length_drop]) (byI_len t) (hr _) (hr _) (fun k hk=> ?_) (fun k hk=> ?_) (by omega) (by omega) (by omega) hm).mono ?_
 ·
  obtain⟨b,o,e,hb,hc⟩:=by_at hrow (i+k) (by omega)
  injection e with e
  injection e with e1 e2
  subst e1 e2
  have hkd:k< (s.drop i).length:=by rw[List.length_drop];exact hk
  rw[add_offs',byI_getD _ k hkd,show off+i+k=off+(i+k) by omega,hE.keep hb hc,List.getElem_drop]
 ·
  rw[add_offs',byI_getD _ k hk,Nat.zero_add];exact hcb k hk
 ·
  rintro e w' ⟨rfl,q,rfl⟩
  rw[bytesOf_byI,bytesOf_byI]
  exact⟨rfl,(Ext.refl _).drewN _⟩
section
variable {g:Nat} {W W':World} {s:Bytes} {i:Nat} {bv ov:Value}
theorem upto_any (h:SB g W s i bv ov) (t v r:Bytes) (ht:t≠ []) (hd:s.drop i=v++t++r) (hx:Lib.index (s.drop i) t=v.length):Calls Tryz.prog 151 #[.pointer (some ⟨g,0,none⟩),.string (bs t)] W fun e w'=>e= .returned (.string (bs v))∧SB g w' s (i+v.length+t.length) bv ov∧Exc g W w':=by
 have hlen:=congrArg List.length hd
 simp only[List.length_drop,List.length_append]at hlen
 have htl:=List.length_pos_iff.2 ht
 have hi:i< s.length:=by omega
 obtain⟨bb,off,bc,rfl,hcap,hbc⟩:=h.slice (by omega)
 have hlt:=h.lt
 have hl:=h.hl
 have hsl:s.length≤65536∧t.length≤65536:=by omega
 have hrow:=h.row
 have HMX:=Lh (h.tb W (Exc.refl g W)).mx
 have c0:=h.c0
 have c1:=h.c1
 obtain⟨n,hn⟩:∃n,v.length=n:=⟨_,rfl⟩
 have hv:v=(s.drop i).take n:=by rw[hd,List.append_assoc,←hn,List.take_left]
 have hnI:¬(n:Int)< 0:=by omega
 have HV:=Lh hv
 have HH:=Lh h
 have hin:i+n+t.length≤s.length:=by omega
 rw[hn]at hx⊢
 have HX:=Lh hx
 clear hv hd hn hx hlen
 obtain⟨wz,hwz⟩:∃wz,wz=W:=⟨_,rfl⟩
 subst hwz
 have HIX:=Lh fun(w:World) (hE:Ext wz w) (cb tc:Nat) (hcb:∀(k:Nat) (hk:k< t.length),w.cell? ⟨cb,k,none⟩=some (.int .u8 (t[k].toNat:Int)))=>by
  have:=ix_any hrow hcap hi ht hsl w hE HMX.out cb tc hcb
  rwa [HX.out]at this
 obtain⟨tc,wc,cs,hcv,hEc,hzc,hbk,hcs⟩:=conv_block (World.drew wz) t
 obtain⟨cb,hcbe⟩:∃c,(World.drew wz).heap.size=c:=⟨_,rfl⟩
 rw[hcbe]at hcv hbk
 have hcb:∀(k:Nat) (hk:k< t.length),wc.cell? ⟨cb,k,none⟩=some (.int .u8 (t[k].toNat:Int)):=fun k hk=>by simp[World.cell?,hbk,hcs k hk]
 clear h hbk hcs hcbe hzc
 go_enter Tryz.func151,Tryz.ntmps151
 go_wp2_with fail
 refine rg_begin (S:=Sx wz) (by kernel_rfl) (Sx.begin _) ?_
 have hS:Sx wz (World.drew wz):=(Sx.begin _)
 refine rg_t 0 (some 7) (.pointer (some ⟨g,0,none⟩)) rfl hS (fun w' hs=>by rfl) ?_
 simp only[Act.put,sA,sZ,sS]
 refine rg_t 1 (some 8) (.pointer (some ⟨g,0,none⟩)) rfl hS (fun w' hs=>by first | rfl | go_simp) ?_
 simp only[Act.put,sA,sZ,sS]
 refine rg_t 2 (some 9) (.pointer (some ⟨g,0,none⟩)) rfl hS (fun w' hs=>by first | rfl | go_simp) ?_
 simp only[Act.put,sA,sZ,sS]
 refine rg_t 3 (some 10) (.slice (some ⟨bb,off,none⟩) s.length bc) rfl hS (fun w' hs=>by(have h0:=hs.cell hlt c0;go_simp)) ?_
 simp only[Act.put,sA,sZ,sS]
 refine rg_t 4 (some 11) (.pointer (some ⟨g,0,none⟩)) rfl hS (fun w' hs=>by rfl) ?_
 simp only[Act.put,sA,sZ,sS]
 refine rg_t 5 (some 12) (.pointer (some ⟨g,0,none⟩)) rfl hS (fun w' hs=>by first | rfl | go_simp) ?_
 simp only[Act.put,sA,sZ,sS]
 refine rg_t 6 (some 13) (.pointer (some ⟨g,1,none⟩)) rfl hS (fun w' hs=>by first | rfl | go_simp) ?_
 simp only[Act.put,sA,sZ,sS]
 refine rg_t 7 (some 14) (.int .i64 (i:Nat)) rfl hS (fun w' hs=>by(have h0:=hs.cell hlt c1;go_simp)) ?_
 simp only[Act.put,sA,sZ,sS]
 refine rg_t 8 (some 15) (.slice (some ⟨bb,off+i,none⟩) (s.length - i) (bc - i)) rfl hS (fun w' hs=>by exact exec_bfrom (i:=i) rfl rfl rfl (by omega) (by omega) _) ?_
 simp only[Act.put,sA,sZ,sS]
 refine rg_t 9 (some 16) (.string (bs t)) rfl hS (fun w' hs=>by rfl) ?_
 simp only[Act.put,sA,sZ,sS]
 refine rg_step 10 (some 17) (.slice (some ⟨cb,0,none⟩) t.length tc) wc rfl rfl (by kernel_rfl) (by rfl) (exec_convb rfl rfl hcv) (hS.ext hEc) ?_
 have hS2:Sx wz wc:=hS.ext hEc
 simp only[Act.put,sA,sZ,sS]
 refine rg_call 11 (some 18) 193 #[.slice (some ⟨bb,off+i,none⟩) (s.length - i) (bc - i),.slice (some ⟨cb,0,none⟩) t.length tc] rfl rfl (by kernel_rfl) (by rfl) (fun w'=>by first | rfl | go_simp) (R:=fun v w'=>v= .int .i64 (n:Nat)∧Ext wc w') ?_ ?_
 ·
  refine(HIX.out wc (show Ext wz wc from hS2) cb tc hcb).mono ?_
  rintro e w' ⟨rfl,h⟩
  exact⟨_,rfl,rfl,h⟩
 rintro _ wr1 ⟨rfl,hBr1⟩
 have hS1:=hS2.ext hBr1
 refine⟨hS1,?_⟩
 simp only[Act.put,sA,sZ,sS]
 refine rg_t 12 (some 5) (.int .i64 (n:Nat)) rfl hS1 (fun w' hs=>by rfl) ?_
 simp only[Act.put,sA,sZ,sS]
 refine rg_done (by kernel_rfl) ?_
 have hY:=Lh (show Ext wz wr1 from hS1)
 obtain⟨wy,hwy⟩:∃w,w=wr1:=⟨_,rfl⟩
 subst hwy
 clear c0 c1 hcv hEc hcb hBr1 hS1 HIX
 go_wp2_with fail
 have hSz:=HH.out.ext hY.out
 obtain⟨wz,hwz⟩:∃w,w=wy:=⟨_,rfl⟩
 subst hwz
 have c0:=hSz.c0
 have c1:=hSz.c1
 have hlt:=hSz.lt
 have HCV:=Lh fun W' (hE:Ext wz W')=>by
  have:=hSz.conv hcap hbc i (i+n) (by omega) (by omega) (by omega) hE
  rw[show(s.drop i).take (i+n - i)=v by rw[Nat.add_sub_cancel_left];exact HV.out.symm]at this
  exact this
 have HS:=Lh hSz
 clear hSz hS hS2
 refine rg_begin (S:=Sx wz) (by kernel_rfl) (Sx.begin _) ?_
 have hSu:Sx wz (World.drew wz):=(Sx.begin _)
 refine rg_t 0 (some 27) (.pointer (some ⟨g,0,none⟩)) rfl hSu (fun w' hs=>by rfl) ?_
 simp only[Act.put,sA,sZ,sS]
 refine rg_t 1 (some 28) (.pointer (some ⟨g,0,none⟩)) rfl hSu (fun w' hs=>by first | rfl | go_simp) ?_
 simp only[Act.put,sA,sZ,sS]
 refine rg_t 2 (some 29) (.pointer (some ⟨g,0,none⟩)) rfl hSu (fun w' hs=>by first | rfl | go_simp) ?_
 simp only[Act.put,sA,sZ,sS]
 refine rg_t 3 (some 30) (.slice (some ⟨bb,off,none⟩) s.length bc) rfl hSu (fun w' hs=>by(have h0:=hs.cell hlt c0;go_simp)) ?_
 simp only[Act.put,sA,sZ,sS]
 refine rg_t 4 (some 31) (.pointer (some ⟨g,0,none⟩)) rfl hSu (fun w' hs=>by rfl) ?_
 simp only[Act.put,sA,sZ,sS]
 refine rg_t 5 (some 32) (.pointer (some ⟨g,0,none⟩)) rfl hSu (fun w' hs=>by first | rfl | go_simp) ?_
 simp only[Act.put,sA,sZ,sS]
 refine rg_t 6 (some 33) (.pointer (some ⟨g,1,none⟩)) rfl hSu (fun w' hs=>by first | rfl | go_simp) ?_
 simp only[Act.put,sA,sZ,sS]
 refine rg_t 7 (some 34) (.int .i64 (i:Nat)) rfl hSu (fun w' hs=>by(have h0:=hs.cell hlt c1;go_simp)) ?_
 simp only[Act.put,sA,sZ,sS]
 refine rg_t 8 (some 35) (.pointer (some ⟨g,0,none⟩)) rfl hSu (fun w' hs=>by rfl) ?_
 simp only[Act.put,sA,sZ,sS]
 refine rg_t 9 (some 36) (.pointer (some ⟨g,0,none⟩)) rfl hSu (fun w' hs=>by first | rfl | go_simp) ?_
 simp only[Act.put,sA,sZ,sS]
 refine rg_t 10 (some 37) (.pointer (some ⟨g,1,none⟩)) rfl hSu (fun w' hs=>by first | rfl | go_simp) ?_
 simp only[Act.put,sA,sZ,sS]
 refine rg_t 11 (some 38) (.int .i64 (i:Nat)) rfl hSu (fun w' hs=>by(have h0:=hs.cell hlt c1;go_simp)) ?_
 simp only[Act.put,sA,sZ,sS]
 refine rg_t 12 (some 39) (.int .i64 (n:Nat)) rfl hSu (fun w' hs=>by rfl) ?_
 simp only[Act.put,sA,sZ,sS]
 refine rg_t 13 (some 40) (.int .i64 (i+n:Nat)) rfl hSu (fun w' hs=>by exact exec_add (i:=i) (j:=n) rfl rfl rfl (by omega) _) ?_
 simp only[Act.put,sA,sZ,sS]
 refine rg_t 14 (some 41) (.slice (some ⟨bb,off+i,none⟩) (i+n - i) (bc - i)) rfl hSu (fun w' hs=>by exact exec_bcut (i:=i) (j:=i+n) rfl rfl rfl rfl (by omega) (by omega) (by omega) _) ?_
 simp only[Act.put,sA,sZ,sS]
 refine rg_t 15 (some 42) (.string (bs v)) rfl hSu (fun w' hs=>by exact exec_bconv rfl rfl (HCV.out w' hs)) ?_
 simp only[Act.put,sA,sZ,sS]
 refine rg_t 16 (some 6) (.string (bs v)) rfl hSu (fun w' hs=>by rfl) ?_
 simp only[Act.put,sA,sZ,sS]
 refine rg_done (by kernel_rfl) ?_
 obtain⟨wy,hwy⟩:∃w,World.drew wz=w:=⟨_,rfl⟩
 have hEy:Ext wz wy:=by rw[←hwy];exact(Ext.refl wz).drew
 rw[hwy]
 clear hwy hSu HCV c0 c1 hlt
 have hSy:=HS.out.ext hEy
 have c1:=hSy.c1
 have f1:=hSy.f 1
 have hts:((bs t).size:Int)=(t.length:Int):=by rw[bs_size]
 have hw1:IntKind.i64.wrap ((n:Int)+(t.length:Int))=(n:Int)+(t.length:Int):=by rw[IntKind.wrap_i64];omega
 have hw2:IntKind.i64.wrap ((i:Int)+((n:Int)+(t.length:Int)))=(i:Int)+((n:Int)+(t.length:Int)):=by rw[IntKind.wrap_i64];omega
 have HP:=hSy.put (i+n+t.length) (by omega)
 obtain⟨w6,hw6⟩:∃X,wy.setCell ⟨g,1,none⟩ (.int .i64 ((i:Int)+((n:Int)+(t.length:Int))))=X:=⟨_,rfl⟩
 rw[show(((i+n+t.length:Nat)):Int)=(i:Int)+((n:Int)+(t.length:Int)) by omega,hw6]at HP
 have HZ:=Lh (And.intro HP.1 ((Exc.of g (hY.out.trans hEy)).trans HP.2))
 clear HP hSy hEy
 go_wp2_with fail
 go_ret
 exact⟨rfl,HZ.out⟩
end
theorem lines_any (s:Bytes) (hs:s.length≤65536) (h13:∀x∈s,x≠13) (w:World) (hm:MaxV w):Calls Tryz.prog 197 #[.string (bs s)] w fun e w'=>e= .returned (.string (bs s))∧w'=w:=by
 obtain⟨m,hm⟩:=hm
 have hno:∀(t:Bytes),Lib.index s (13::t)= -1:=fun t=>by
  refine Lib.index_none fun j hj=> ?_
  cases h:Lib.occAt s (13::t) j with
  | false=>rfl
  | true=>
   have:=Lib.occAt_head rfl h
   obtain⟨hj,e⟩:=List.getElem?_eq_some_iff.1 this
   exact absurd e (h13 _ (List.getElem_mem hj))
 have hc:∀t:Bytes,Lib.countB (bs s) (bs (13::t))=0:=fun t=>by
  unfold Lib.countB
  have e1:(bs s).data.toList=s:=by simp[bs]
  have e2:(bs (13::t)).data.toList=13::t:=by simp[bs]
  rw[e1,e2,Lib.count,Lib.countFrom,hno t];rfl
 have hR:∀t:Bytes,13::t≠ [10]→Calls Tryz.prog 226 #[.string (bs s),.string (bs (13::t)),.string (bs [10])] w fun e w'=>e= .returned (.string (bs s))∧w'=w:=fun t ht=>by
  have HC:=Lh (Tryz.strings_Replace_absent (bs s) (bs (13::t)) (bs [10]) (-1) m w (by rw[bs_size];omega) hm (by rw[bs_size];simp) (fun e=>ht (by have:=congrArg ByteArray.toList e;rwa [bs_toList,bs_toList]at this)) (by decide) (hc t))
  clear hc hno h13 hm
  go_enter Tryz.func226,Tryz.ntmps226
  go_wp2_with fail
  refine HC.out.mono ?_
  rintro e w' ⟨rfl,rfl⟩
  go_wp2_with fail
  go_ret
  exact⟨rfl,rfl⟩
 have H1:=Lh (hR [10] (by simp))
 have H2:=Lh (hR [] (by simp))
 clear hR hc hno h13 hm
 go_enter Tryz.func197,Tryz.ntmps197
 go_wp2_with fail
 refine H1.out.mono ?_
 rintro e w' ⟨rfl,rfl⟩
 go_wp2_with fail
 refine H2.out.mono ?_
 rintro e w' ⟨rfl,rfl⟩
 go_wp2_with fail
 go_ret
 exact⟨rfl,rfl⟩
def CmR (s:Bytes) (i:Nat) (tx:Bytes) (e:Nat):Prop:=∃rr,s.drop i=60::33::45::45::(tx++45::45::62::rr)∧Lib.index (s.drop (i+4)) [45,45]=tx.length∧(∀x∈tx,x≠13)∧e=i+4+tx.length+3
section
variable {g r q:Nat} {T:TypeId} {W W' w w':World} {s:Bytes} {i j:Nat} {bv ov:Value} {z t:Array Value}
theorem comment_any (h:SB g W s i bv ov) (tx:Bytes) (e:Nat) (hR:CmR s i tx e):Calls Tryz.prog 196 #[.pointer (some ⟨g,0,none⟩)] W fun ed w'=>ed= .returned (.agg #[.int .i64 6,.int .i64 i,.string ⟨#[]⟩,.string (bs tx),.slice none 0 0])∧SB g w' s e bv ov∧Exc g W w':=by
 obtain⟨rr,hd,hx,h13,rfl⟩:=hR
 have hpl:=congrArg List.length hd
 simp only[List.length_drop,List.length_cons,List.length_append]at hpl
 have hd4:s.drop (i+4)=tx++ [45,45]++62::rr:=by rw[←List.drop_drop,hd];simp
 have hlp:i+4+tx.length+2< s.length:=by omega
 have h62:s[i+4+tx.length+2]=62:=by
  have e:s.drop (i+4+tx.length+2)=62::rr:=by
   rw[show i+4+tx.length+2=i+4+(tx++ [45,45]).length by simp;omega,←List.drop_drop,hd4,List.drop_left]
  exact drop_byte e
 obtain⟨m,hm⟩:∃m,i+4+tx.length+2=m:=⟨_,rfl⟩
 simp only[hm]at h62 hlp
 have h62':((s[m].toNat:Nat):Int)=62:=by rw[h62];rfl
 have HM:=Lh hm
 have HN:=Lh (And.intro hd4 (And.intro hx (And.intro h13 h62')))
 obtain⟨bb,off,bc,rfl,hcap,hbc⟩:=h.slice (by omega)
 have HB1:=Lh (tb_begin2 h (j:=i+4) (by omega) #[.int .i64 6,.int .i64 (i:Nat),.string ⟨#[]⟩,.string ⟨#[]⟩,.slice none 0 0])
 have c1:(W.alloc (.cells #[.int .i64 0,.int .i64 0,.string ⟨#[]⟩,.string ⟨#[]⟩,.slice none 0 0] 75)).cell? ⟨g,1,none⟩=some (.int .i64 (i:Nat)):=((Ext.refl W).alloc _).keep h.lt h.c1
 have k1:=blk_cell (tb_begin h #[.int .i64 6,.int .i64 (i:Int),.string ⟨#[]⟩,.string ⟨#[]⟩,.slice none 0 0]).b (k:=1) rfl
 have j1:=blk_free (k:=1) (tb_begin h #[.int .i64 6,.int .i64 (i:Int),.string ⟨#[]⟩,.string ⟨#[]⟩,.slice none 0 0]).b
 have HH:=Lh h
 have hl:=h.hl
 have hlt:=h.lt
 have htl:tx.length≤65536:=by omega
 clear h hd hd4 hx h13 h62 h62' hpl hm
 go_enter Tryz.func196,Tryz.ntmps196
 go_wp2_with fail
 obtain⟨r,hr⟩:∃r,W.heap.size=r:=⟨_,rfl⟩
 obtain⟨w1,hw1⟩:∃X,((W.setCell ⟨g,1,none⟩ (.int .i64 ((i:Int)+4))).alloc (.cells #[.int .i64 0,.int .i64 0,.string ⟨#[]⟩,.string ⟨#[]⟩,.slice none 0 0] 75)).alloc (.cells #[.int .i64 6,.int .i64 (i:Int),.string ⟨#[]⟩,.string ⟨#[]⟩,.slice none 0 0] 75)=X:=⟨_,rfl⟩
 have HB0:=HB1.out
 rw[hr,show(((i+4:Nat)):Int)=(i:Int)+4 from rfl,hw1]at HB0
 rw[hr,hw1]
 clear hw1 c1 k1 j1 HB1
 have HB2:=HB0
 clear HB0
 refine(upto_any (HB2.sb HH.out (by omega)) [45,45] tx (62::rr) (by simp) HN.out.1 HN.out.2.1).mono ?_
 rintro e w3 ⟨rfl,hS3,hX3⟩
 replace hS3:SB g w3 s m (.slice (some ⟨bb,off,none⟩) s.length bc) ov:=by rw[←HM.out];exact hS3
 have HB3:=Lh (HB2.call hS3.blk hX3)
 have HMX:=Lh (HH.out.tb w3 HB3.out.x).mx
 clear hS3 hX3 HB2
 go_wp2_with fail
 refine(lines_any tx htl HN.out.2.2.1 w3 HMX.out).mono ?_
 rintro e w4 ⟨rfl,rfl⟩
 obtain⟨w5,hw5⟩:∃X,w4.setCell ⟨r+1,3,none⟩ (.string (bs tx))=X:=⟨_,rfl⟩
 have HB5:=HB3.out.set 3 (.string (bs tx))
 rw[hw5]at HB5
 simp only[List.setIfInBounds_toArray,List.set_cons_zero,List.set_cons_succ]at HB5
 have c2:=blk_cell HB3.out.r3 (k:=3) rfl
 have f2:=blk_free (k:=3) HB3.out.r3
 replace HB5:=Lh HB5
 clear HB3
 go_wp2_with fail
 clear c2 f2
 refine(need_any (HB5.out.sb HH.out (by omega)) hlp).mono ?_
 rintro e w6 ⟨rfl,hE6⟩
 have HB6:=Lh (HB5.out.ext hE6)
 have hS6:=HB6.out.sb HH.out (by omega)
 have c0:=hS6.c0;have c1:=hS6.c1
 obtain⟨hbl,cm⟩:=hS6.byte hlp
 rw[HN.out.2.2.2]at cm
 clear hE6 HB5 hS6
 go_wp2_with fail
 go_quiet (fail)
 obtain⟨w7,hw7⟩:∃w,w6.drewN nq=w:=⟨_,rfl⟩
 have Ehw7:Ext w6 w7:=by rw[←hw7];exact(Ext.refl w6).drewN _
 rw[hw7]
 have HB7:=Lh (HB6.out.ext Ehw7)
 clear c0 c1 cm hbl HB6 hw7 Ehw7
 have c1':=blk_cell HB7.out.b (k:=1) rfl
 have f1':=blk_free (k:=1) HB7.out.b
 obtain⟨w8,hw8⟩:∃X,w7.setCell ⟨g,1,none⟩ (.int .i64 ((m:Int)+1))=X:=⟨_,rfl⟩
 have hT:TB g r (r+1) 75 W w8 (m+1) (.slice (some ⟨bb,off,none⟩) s.length bc) ov #[.int .i64 0,.int .i64 0,.string ⟨#[]⟩,.string ⟨#[]⟩,.slice none 0 0] #[.int .i64 6,.int .i64 (i:Nat),.string ⟨#[]⟩,.string (bs tx),.slice none 0 0]:=by
  rw[←hw8];exact HB7.out.at (m+1)
 have c0:=blk_cell hT.r3 (k:=0) rfl;have c1:=blk_cell hT.r3 (k:=1) rfl;have c2:=blk_cell hT.r3 (k:=2) rfl;have c3:=blk_cell hT.r3 (k:=3) rfl;have c4:=blk_cell hT.r3 (k:=4) rfl
 have d0:=blk_cell hT.r2 (k:=0) rfl;have d1:=blk_cell hT.r2 (k:=1) rfl;have d2:=blk_cell hT.r2 (k:=2) rfl;have d3:=blk_cell hT.r2 (k:=3) rfl;have d4:=blk_cell hT.r2 (k:=4) rfl
 have f0:=blk_free (k:=0) hT.r2;have f1:=blk_free (k:=1) hT.r2;have f2:=blk_free (k:=2) hT.r2;have f3:=blk_free (k:=3) hT.r2;have f4:=blk_free (k:=4) hT.r2
 obtain⟨w9,hw9⟩:∃X,((((w8.setCell ⟨r,0,none⟩ (.int .i64 6)).setCell ⟨r,1,none⟩ (.int .i64 (i:Nat))).setCell ⟨r,2,none⟩ (.string ⟨#[]⟩)).setCell ⟨r,3,none⟩ (.string (bs tx))).setCell ⟨r,4,none⟩ (.slice none 0 0)=X:=⟨_,rfl⟩
 have hb9:=st5t_blk hT.r2 (.int .i64 6) (.int .i64 (i:Nat)) (.string ⟨#[]⟩) (.string (bs tx)) (.slice none 0 0)
 have hx9:=hT.st (.int .i64 6) (.int .i64 (i:Nat)) (.string ⟨#[]⟩) (.string (bs tx)) (.slice none 0 0)
 unfold st5t at hb9 hx9
 rw[hw9]at hb9 hx9
 have HZ9:=Lh (And.intro hb9 hx9)
 clear hb9 hx9
 clear hT
 go_wp2_with fail
 refine bodyPost_ret (res_one rfl _ _ _ ⟨r,0,none⟩ ?_ (load_tok HZ9.out.1)) rfl ?_
 ·
  first | rfl | simp
 clear hw9
 have hX9:=HZ9.out.2
 exact⟨rfl,by rw[show i+4+tx.length+3=m+1 by have:=HM.out;omega];exact HH.out.exc hX9.1 hX9.2.1 (by omega),hX9.1⟩
theorem mark_any (h:SB g W s i bv ov) (tx:Bytes) (e:Nat) (hR:CmR s i tx e):Calls Tryz.prog 154 #[.pointer (some ⟨g,0,none⟩)] W fun ed w'=>ed= .returned (.agg #[.int .i64 6,.int .i64 i,.string ⟨#[]⟩,.string (bs tx),.slice none 0 0])∧SB g w' s e bv ov∧Exc g W w':=by
 have hd:=hR.choose_spec.1
 have hi:=drop_lt hd
 have hh:hasS (s.drop i) [60,33,45,45]=true:=by rw[hd];simp[hasS,List.isPrefixOf]
 have HH:=Lh h
 have hlt:=h.lt
 obtain⟨w1,hw1⟩:∃X,W.alloc (.cells #[.int .i64 0,.int .i64 0,.string ⟨#[]⟩,.string ⟨#[]⟩,.slice none 0 0] 75)=X:=⟨_,rfl⟩
 have hE1:Ext W w1:=by rw[←hw1];exact(Ext.refl W).alloc _
 obtain⟨r,hr⟩:∃r,W.heap.size=r:=⟨_,rfl⟩
 have hb1:w1.heap[r]? =some (.cells #[.int .i64 0,.int .i64 0,.string ⟨#[]⟩,.string ⟨#[]⟩,.slice none 0 0] 75 (0,0)):=by rw[←hw1,←hr];exact Array.getElem?_push_size ..
 have HHS:=Lh (And.intro hE1 (And.intro hb1 (And.intro hR hh)))
 clear hd hR hh h hE1 hb1
 go_enter Tryz.func154,Tryz.ntmps154
 go_wp2_with fail
 try rw[hr]
 refine(has_any (HH.out.ext HHS.out.1) hi [60,33,45,45] (by simp)).mono ?_
 rintro e1 w2 ⟨rfl,hE2⟩
 rw[HHS.out.2.2.2]
 have hX2:=Exc.of g (HHS.out.1.trans hE2)
 have hb2:=(Below.block hE2 r (blk_lt HHS.out.2.1)).trans HHS.out.2.1
 have hS2:=(HH.out.ext HHS.out.1).ext hE2
 clear hw1 hE2
 go_wp2_with fail
 refine(comment_any hS2 tx e HHS.out.2.2.1).mono ?_
 rintro e1 w3 ⟨rfl,hS3,hX3⟩
 have hb3:=(hX3.2 r (by omega) (blk_lt hb2)).trans hb2
 have d0:=blk_cell hb3 (k:=0) rfl;have d1:=blk_cell hb3 (k:=1) rfl;have d2:=blk_cell hb3 (k:=2) rfl;have d3:=blk_cell hb3 (k:=3) rfl;have d4:=blk_cell hb3 (k:=4) rfl
 have f0:=blk_free (k:=0) hb3;have f1:=blk_free (k:=1) hb3;have f2:=blk_free (k:=2) hb3;have f3:=blk_free (k:=3) hb3;have f4:=blk_free (k:=4) hb3
 obtain⟨w9,hw9⟩:∃X,((((w3.setCell ⟨r,0,none⟩ (.int .i64 6)).setCell ⟨r,1,none⟩ (.int .i64 (i:Nat))).setCell ⟨r,2,none⟩ (.string ⟨#[]⟩)).setCell ⟨r,3,none⟩ (.string (bs tx))).setCell ⟨r,4,none⟩ (.slice none 0 0)=X:=⟨_,rfl⟩
 have hb9:=st5t_blk hb3 (.int .i64 6) (.int .i64 (i:Nat)) (.string ⟨#[]⟩) (.string (bs tx)) (.slice none 0 0)
 have hX9:Exc g W w9:=by rw[←hw9];exact(((((hX2.trans hX3).new (by omega) 0 _).new (by omega) 1 _).new (by omega) 2 _).new (by omega) 3 _).new (by omega) 4 _
 have hg9:w9.heap[g]? =w3.heap[g]? :=by
  rw[←hw9,Below.heap_setCell _ _ _ _ (by simp only;omega),Below.heap_setCell _ _ _ _ (by simp only;omega),Below.heap_setCell _ _ _ _ (by simp only;omega),Below.heap_setCell _ _ _ _ (by simp only;omega),Below.heap_setCell _ _ _ _ (by simp only;omega)]
 unfold st5t at hb9
 rw[hw9]at hb9
 have HZ9:=Lh (And.intro hb9 (And.intro (HH.out.exc hX9 (hg9.trans hS3.blk) hS3.hi) hX9))
 clear hb9 hX9 hg9 hb3 hX3 hS3 hb2 hX2 hS2
 go_wp2_with fail
 refine bodyPost_ret (res_one rfl _ _ _ ⟨r,0,none⟩ ?_ (load_tok HZ9.out.1)) rfl ?_
 ·
  first | rfl | simp
 clear hw9
 exact⟨rfl,HZ9.out.2⟩
end
end Go.Proofs.YtcfibjiikhnfhaaGreatDoor
