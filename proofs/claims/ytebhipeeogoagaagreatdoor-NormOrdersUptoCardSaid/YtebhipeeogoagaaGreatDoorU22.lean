/-
 The lexer's tag. Helper lemmas;no statement of the seat is proved here.
-/
import Derived.Test.YtebhipeeogoagaaGreatDoorU21
import Derived.Recover
import Derived.Defers
namespace Go.Proofs.YtebhipeeogoagaaGreatDoor
open Go.RowKit
set_option maxHeartbeats 32000000
set_option maxRecDepth 100000
set_option linter.unusedVariables false
set_option linter.unusedSimpArgs false
def Sc (b o:Nat) (u:Value) (w:World):Prop:=w.cell? ⟨b,o,none⟩=some u
section
variable {b o g:Nat} {u:Value} {w w':World}
theorem Sc.cell (h:Sc b o u w) (_ _:True):w.cell? ⟨b,o,none⟩=some u:=h
theorem Sc.lt (h:Sc b o u w):b< w.heap.size:=World.block_lt_of_cell? w ⟨b,o,none⟩ h
theorem sc_ext (h:Sc b o u w) (hE:Ext w w'):Sc b o u w':=hE.keep h.lt h
theorem sc_exc (h:Sc b o u w) (hg:b≠g) (hX:Exc g w w'):Sc b o u w':=(World.cell?_of_block (a:=⟨b,o,none⟩) (hX.2 b hg h.lt)).trans h
theorem sc_grown (h:Sc b o u w) {row:Option Nat} (hg:w.grownBy w' row) (hn:some b≠row):Sc b o u w':=(World.cell?_of_block (a:=⟨b,o,none⟩) (hg.block b h.lt hn)).trans h
theorem blk_chain {q:Nat} {wz xq xb xc:World} {ob:Obj} {row:Option Nat} (h:wz.heap[q]? =some ob) (h1:Exc g wz xq) (hg:q≠g) (h2:Ext xq xb) (h3:xb.grownBy xc row) (hn:some q≠row):xc.heap[q]? =some ob:=by
 have e1:=(h1.2 q hg (blk_lt h)).trans h
 have e2:=(Below.block h2 q (blk_lt e1)).trans e1
 exact(h3.block q (blk_lt e2) hn).trans e2
theorem xrows_exc {base z n:Nat} {e:TypeId} {v:Value} {us:List Value} (h:w.ownsRow base e z v n us) (hX:Exc g w w') (hg:g< base):w'.ownsRow base e z v n us:=
 h.kept (row:=some g) ⟨hX.3.1,hX.3.2.1,hX.3.2.2,hX.1,fun i hi hne=>hX.2 i (fun e=>hne (by rw[e])) hi⟩ (by
  cases ho:v.ownBlock with
  | none=>exact .inl rfl
  | some k=>exact .inr fun e=>by have:=Option.some.inj e;have:=(h.lt k ho).1;omega)
end
theorem s1Attrs:∀W,(sizeOf 23).run Tryz.prog W= .ok 1 W:=fun W=>by go_simp
inductive TagR (s:Bytes):Nat→List Attr→Int→List Attr→Nat→Prop
 | gt (p:Nat) (A:List Attr) (r:Bytes) (h:s.drop (p+blS (s.drop p))=62::r):TagR s p A 1 A (p+blS (s.drop p)+1)
 | sl (p:Nat) (A:List Attr) (r:Bytes) (h:s.drop (p+blS (s.drop p))=47::62::r):TagR s p A 2 A (p+blS (s.drop p)+2)
 | at' (p:Nat) (A:List Attr) (k:Int) (B:List Attr) (e:Nat) (a:Attr) (p2:Nat) (c:UInt8) (r:Bytes) (hb:0< blS (s.drop p)) (hc:s.drop (p+blS (s.drop p))=c::r) (h1:c≠62) (h2:c≠47)
   (ha:AttR s (p+blS (s.drop p)) a p2) (hn:∀x∈A,x.n≠a.n) (h:TagR s p2 (A++ [a]) k B e):TagR s p A k B e
theorem TagR.head {s:Bytes} {p:Nat} {A:List Attr} {k:Int} {B:List Attr} {e:Nat} (h:TagR s p A k B e):∃c r,s.drop (p+blS (s.drop p))=c::r:=by
 cases h with
 | gt _ _ r h=>exact⟨_,_,h⟩
 | sl _ _ r h=>exact⟨_,_,h⟩
 | at' _ _ _ _ _ a p2 c r hb hc h1 h2 ha hn h=>exact⟨_,_,hc⟩
theorem TagR.inv {s:Bytes} {p:Nat} {A:List Attr} {k:Int} {B:List Attr} {e:Nat} (h:TagR s p A k B e):
  (∃r,s.drop (p+blS (s.drop p))=62::r∧1=k∧A=B∧p+blS (s.drop p)+1=e)∨(∃r,s.drop (p+blS (s.drop p))=47::62::r∧2=k∧A=B∧p+blS (s.drop p)+2=e)∨
  ∃(a:Attr) (p2:Nat) (c:UInt8) (r:Bytes),0< blS (s.drop p)∧s.drop (p+blS (s.drop p))=c::r∧c≠62∧c≠47∧AttR s (p+blS (s.drop p)) a p2∧(∀x∈A,x.n≠a.n)∧TagR s p2 (A++ [a]) k B e:=by
 cases h with
 | gt _ _ r h=>exact .inl ⟨r,h,rfl,rfl,rfl⟩
 | sl _ _ r h=>exact .inr (.inl ⟨r,h,rfl,rfl,rfl⟩)
 | at' _ _ _ _ _ a p2 c r hb hc h1 h2 ha hn h=>exact .inr (.inr ⟨a,p2,c,r,hb,hc,h1,h2,ha,hn,h⟩)
theorem drop_byte {s:Bytes} {p:Nat} {c:UInt8} {r:Bytes} (h:s.drop p=c::r):s[p]'(drop_lt h)=c:=by
 have h1:=List.drop_eq_getElem_cons (drop_lt h)
 rw[h]at h1
 injection h1 with h1 _
 exact h1.symm
def TkRet (g:Nat) (W:World) (s:Bytes) (e:Nat) (bv ov:Value) (kind:Int) (at':Nat) (name text:Bytes) (attrs:List Attr) (ed:Ending) (w':World):Prop:=
 ∃va,ed= .returned (.agg #[.int .i64 kind,.int .i64 at',.string (bs name),.string (bs text),va])∧Rep w' (fun b=>W.heap.size≤b) va (attrsD attrs)∧SB g w' s e bv ov∧Exc g W w'
section
variable {g:Nat} {W W' w w':World} {s:Bytes} {i j:Nat} {bv ov:Value}
theorem Own.rep' {w:World} {base z n:Nat} {e:TypeId} {v:Value} {es:List DV} (h:Own w (fun _=>False) base e z v n es):Rep w (fun b=>base≤b) v (.s z es):=h.rep.ok fun b hb=>hb.elim (fun h=>h.elim) id
theorem Own.xexc {w w':World} {base z n:Nat} {e:TypeId} {v:Value} {es:List DV} (h:Own w (fun _=>False) base e z v n es) (hX:Exc g w w') (hg:g< base):Own w' (fun _=>False) base e z v n es:=by
 obtain⟨us,h1,h2⟩:=h
 exact⟨us,xrows_exc h1 hX hg,(h2.kept fun b hb=>hb.1.elim).ok fun b hb=>hb.1.elim⟩
theorem tag_any (h:SB g W s i bv ov) (n:Nat) (nm:Bytes) (k:Int) (B:List Attr) (e:Nat) (hn:nameS (s.drop (i+1))=n) (hn0:0< n) (hnm:nm=(s.drop (i+1)).take n) (hT:TagR s (i+1+n) [] k B e):
  Calls Tryz.prog 150 #[.pointer (some ⟨g,0,none⟩)] W (TkRet g W s e bv ov k i nm [] B):=by
 obtain⟨i0,hi,hz0,hz1,hz2⟩:=info_parts infoAttr
 obtain⟨hnl,hil⟩:=nameS_lt (s:=s) (p:=i+1) (by omega)
 have HN:=Lh (And.intro hn (And.intro hn0 (And.intro hnm hT)))
 have HB1:=Lh (tb_begin2 h (j:=i+1) (by omega) #[.int .i64 1,.int .i64 (i:Nat),.string ⟨#[]⟩,.string ⟨#[]⟩,.slice none 0 0])
 have c1:(W.alloc (.cells #[.int .i64 0,.int .i64 0,.string ⟨#[]⟩,.string ⟨#[]⟩,.slice none 0 0] 74)).cell? ⟨g,1,none⟩=some (.int .i64 (i:Nat)):=((Ext.refl W).alloc _).keep h.lt h.c1
 have k1:=blk_cell (tb_begin h #[.int .i64 1,.int .i64 (i:Int),.string ⟨#[]⟩,.string ⟨#[]⟩,.slice none 0 0]).b (k:=1) rfl
 have j1:=blk_free (k:=1) (tb_begin h #[.int .i64 1,.int .i64 (i:Int),.string ⟨#[]⟩,.string ⟨#[]⟩,.slice none 0 0]).b
 have HH:=Lh h
 have hl:=h.hl
 have hlt:=h.lt
 obtain⟨bb,off,bc,rfl,hcap,hbc⟩:=h.slice (by omega)
 clear h hn hn0 hnm hT
 go_enter Tryz.func150,Tryz.ntmps150
 go_wp2_with fail
 obtain⟨r,hr⟩:∃r,W.heap.size=r:=⟨_,rfl⟩
 obtain⟨w1,hw1⟩:∃X,((W.setCell ⟨g,1,none⟩ (.int .i64 ((i:Int)+1))).alloc (.cells #[.int .i64 0,.int .i64 0,.string ⟨#[]⟩,.string ⟨#[]⟩,.slice none 0 0] 74)).alloc (.cells #[.int .i64 1,.int .i64 (i:Int),.string ⟨#[]⟩,.string ⟨#[]⟩,.slice none 0 0] 74)=X:=⟨_,rfl⟩
 have HB0:=HB1.out
 rw[hr,show(((i+1:Nat)):Int)=(i:Int)+1 from rfl,hw1]at HB0
 rw[hr,hw1]
 clear hw1 c1 k1 j1 HB1
 refine(xname_any (HB0.sb HH.out (by omega)) hil (by rw[HN.out.1];exact HN.out.2.1)).mono ?_
 rintro e w3 ⟨rfl,hS3,hX3⟩
 rw[HN.out.1,←HN.out.2.2.1]at*
 have HB3:=HB0.call hS3.blk hX3
 obtain⟨q,hq⟩:∃q,r+1=q:=⟨_,rfl⟩
 rw[hq]at HB3⊢
 obtain⟨w4,hw4⟩:∃X,w3.setCell ⟨q,2,none⟩ (.string (bs nm))=X:=⟨_,rfl⟩
 have HB4:=HB3.set 2 (.string (bs nm))
 rw[hw4]at HB4
 simp only[List.setIfInBounds_toArray,List.set_cons_zero,List.set_cons_succ]at HB4
 have c2:=blk_cell HB3.r3 (k:=2) rfl
 have f2:=blk_free (k:=2) HB3.r3
 obtain⟨base,hbase⟩:∃b,w4.heap.size=b:=⟨_,rfl⟩
 have hqb:q< base:=by rw[←hbase];exact blk_lt HB4.r3
 have hrq:=HB4.hq
 have hgr:=HB4.hg
 have hwr:=HB4.hr
 have HS:Hid (TB g r q 74 W w4 (i+1+n) (.slice (some ⟨bb,off,none⟩) s.length bc) ov #[.int .i64 0,.int .i64 0,.string ⟨#[]⟩,.string ⟨#[]⟩,.slice none 0 0] #[.int .i64 1,.int .i64 (i:Nat),.string (bs nm),.string ⟨#[]⟩,.slice none 0 0]∧Own w4 (fun _=>False) base 62 2 (.slice none 0 0) (([]:List Attr).length) (([]:List Attr).flatMap attrC)∧TagR s (i+1+n) [] k B e):=Lh ⟨HB4,Own.nil _ _ _ _ _,HN.out.2.2.2⟩
 have hb4:base≤w4.heap.size:=by omega
 clear hS3 hX3 HB0 HB3 HB4 hbase hq
 go_wp2_with fail
 clear c2 f2 hw4
 go_loopw [4,34,44] (fun _ _ _ wr=>∃(p:Nat) (A:List Attr) (dv:Value),base≤wr.heap.size∧A.length≤p∧Hid (TB g r q 74 W wr p (.slice (some ⟨bb,off,none⟩) s.length bc) ov #[.int .i64 0,.int .i64 0,.string ⟨#[]⟩,.string ⟨#[]⟩,.slice none 0 0] #[.int .i64 1,.int .i64 (i:Nat),.string (bs nm),.string ⟨#[]⟩,dv]∧Own wr (fun _=>False) base 62 2 dv A.length (A.flatMap attrC)∧TagR s p A k B e)) (fun _ _ _ wr=>atQ s.length g wr)
 case atStart=>exact⟨_,[],_,hb4,Nat.zero_le _,HS⟩
 case round=>
  clear HS
  obtain⟨p,A,dv,hbw,hAp,HI⟩:=hrel
  obtain⟨da,dc,rfl,hdc,hdc2⟩:=HI.out.2.1.form
  obtain⟨c,rr,hhd⟩:=HI.out.2.2.head
  obtain⟨m,hm⟩:∃m,p+blS (s.drop p)=m:=⟨_,rfl⟩
  rw[hm]at hhd
  have hml:=drop_lt hhd
  have hsm:s[m]'hml=c:=drop_byte hhd
  have hpm:p≤m:=by omega
  have hle:=HI.out.1.sb HH.out (by omega)
  have HMZ:=Lh (show atQ s.length g wr=s.length - p by simp only[atQ,hle.c1];rfl)
  clear hle
  have hSr:=HI.out.1.sb HH.out (by omega)
  have HQ:=Lh (blanks_any hSr (by omega))
  obtain⟨bq,hbq⟩:∃b,decide (0< blS (s.drop p))=b:=⟨_,rfl⟩
  have HM:=Lh (And.intro hm hbq)
  rw[hm,hbq]at HQ
  clear hm hbq hSr hhd
  go_wp2_with fail
  refine HQ.out.mono ?_
  rintro e w5 ⟨rfl,hS5,hX5⟩
  clear HQ
  have HJ:=Lh (And.intro (HI.out.1.call hS5.blk hX5) (HI.out.2.1.xexc hX5 (by omega)))
  have hb5:base≤w5.heap.size:=Nat.le_trans hbw hX5.1
  have HN5:=Lh (need_any hS5 hml)
  clear hS5 hX5
  go_wp2_with fail
  refine HN5.out.mono ?_
  rintro e w6 ⟨rfl,hE6⟩
  clear HN5
  replace HJ:=Lh (And.intro (HJ.out.1.ext hE6) (HJ.out.2.ext hE6))
  have hb6:base≤w6.heap.size:=Nat.le_trans hb5 hE6.size
  have hS6:=HJ.out.1.sb HH.out (by omega)
  have c0:=hS6.c0;have c1:=hS6.c1
  obtain⟨hbl,cm⟩:=hS6.byte hml
  rw[hsm]at cm
  obtain⟨x,hx⟩:∃x:Nat,c.toNat=x:=⟨_,rfl⟩
  have hxl:c.toNat< 256:=UInt8.toNat_lt _
  rw[hx]at cm hxl
  clear hE6 hS6
  go_wp2_with fail
  go_quiet (fail)
  obtain⟨wz,hwz⟩:∃w,w6.drewN nq=w:=⟨_,rfl⟩
  have Ehwz:Ext w6 wz:=by rw[←hwz];exact(Ext.refl w6).drewN _
  rw[hwz]
  have HZ:=Lh (And.intro (HJ.out.1.ext Ehwz) (HJ.out.2.ext Ehwz))
  have hbz:base≤wz.heap.size:=Nat.le_trans hb6 Ehwz.size
  have HG:=Lh HI.out.2.2
  clear hwz Ehwz c0 c1 cm hbl HJ hb6 hb5 hbw HI
  have hG:=HG.out.inv
  clear HG
  rw[HM.out.1]at hG
  rcases hG with⟨rg,hg1,rfl,rfl,rfl⟩ | ⟨rg,hg1,rfl,rfl,rfl⟩ | ⟨a,p2,c2,rg,hb0,hc2,h62,h47,ha,hne,hrest⟩
  ·
   obtain rfl:x=62:=by rw[←hx,←hsm,drop_byte hg1];rfl
   have hT0:=HZ.out.1
   have hO0:=HZ.out.2
   have k1:=blk_cell hT0.b (k:=1) rfl
   have j1:=blk_free (k:=1) hT0.b
   obtain⟨w7,hw7⟩:∃X,wz.setCell ⟨g,1,none⟩ (.int .i64 ((m:Int)+1))=X:=⟨_,rfl⟩
   have hT:TB g r q 74 W w7 (m+1) (.slice (some ⟨bb,off,none⟩) s.length bc) ov #[.int .i64 0,.int .i64 0,.string ⟨#[]⟩,.string ⟨#[]⟩,.slice none 0 0] #[.int .i64 1,.int .i64 (i:Nat),.string (bs nm),.string ⟨#[]⟩,(.slice da A.length dc)]:=by rw[←hw7];exact hT0.at (m+1)
   have hO:=hO0.xexc (w':=w7) (by rw[←hw7];exact(Exc.refl g wz).set rfl _) (by omega)
   have c0:=blk_cell hT.r3 (k:=0) rfl;have c1:=blk_cell hT.r3 (k:=1) rfl;have c2:=blk_cell hT.r3 (k:=2) rfl;have c3:=blk_cell hT.r3 (k:=3) rfl;have c4:=blk_cell hT.r3 (k:=4) rfl
   have d0:=blk_cell hT.r2 (k:=0) rfl;have d1:=blk_cell hT.r2 (k:=1) rfl;have d2:=blk_cell hT.r2 (k:=2) rfl;have d3:=blk_cell hT.r2 (k:=3) rfl;have d4:=blk_cell hT.r2 (k:=4) rfl
   have f0:=blk_free (k:=0) hT.r2;have f1:=blk_free (k:=1) hT.r2;have f2:=blk_free (k:=2) hT.r2;have f3:=blk_free (k:=3) hT.r2;have f4:=blk_free (k:=4) hT.r2
   obtain⟨w9,hw9⟩:∃X,((((w7.setCell ⟨r,0,none⟩ (.int .i64 1)).setCell ⟨r,1,none⟩ (.int .i64 (i:Nat))).setCell ⟨r,2,none⟩ (.string (bs nm))).setCell ⟨r,3,none⟩ (.string ⟨#[]⟩)).setCell ⟨r,4,none⟩ (.slice da A.length dc)=X:=⟨_,rfl⟩
   have hb9:=st5t_blk hT.r2 (.int .i64 1) (.int .i64 (i:Nat)) (.string (bs nm)) (.string ⟨#[]⟩) (.slice da A.length dc)
   have hx9:=hT.st (.int .i64 1) (.int .i64 (i:Nat)) (.string (bs nm)) (.string ⟨#[]⟩) (.slice da A.length dc)
   unfold st5t at hb9 hx9
   rw[hw9]at hb9 hx9
   have HZ9:=Lh (And.intro hb9 hx9)
   clear hb9 hx9
   have HO:=Lh hO.rep'
   clear hT hT0 hO0 hO hsm
   go_wp2_with fail
   refine bodyPost_ret (res_one rfl _ _ _ ⟨r,0,none⟩ ?_ (load_tok HZ9.out.1)) rfl ?_
   ·
    first | rfl | simp
   clear hw9
   have hX9:=HZ9.out.2
   exact⟨_,rfl,(HO.out.kept fun b hb _=>hX9.2.2 b (by omega)).ok fun b hb=>by omega,HH.out.exc hX9.1 hX9.2.1 (by omega),hX9.1⟩
  ·
   obtain rfl:x=47:=by rw[←hx,←hsm,drop_byte hg1];rfl
   have HE:=Lh (eat_any (HZ.out.1.sb HH.out (by omega)) [47,62] rg hg1 (by simp))
   clear hsm
   go_wp2_with fail
   refine HE.out.mono ?_
   rintro e w7 ⟨rfl,hS7,hX7⟩
   replace hS7:SB g w7 s (m+2) (.slice (some ⟨bb,off,none⟩) s.length bc) ov:=hS7
   have hT7:=HZ.out.1.call hS7.blk hX7
   have hO:=HZ.out.2.xexc hX7 (by omega)
   have hme:=hS7.hi
   have k0:=blk_cell hT7.r3 (k:=0) rfl
   have j0:=blk_free (k:=0) hT7.r3
   obtain⟨w8,hw8⟩:∃X,w7.setCell ⟨q,0,none⟩ (.int .i64 2)=X:=⟨_,rfl⟩
   have hT:=hT7.set 0 (.int .i64 2)
   rw[hw8]at hT
   simp only[List.setIfInBounds_toArray,List.set_cons_zero,List.set_cons_succ]at hT
   have hO8:Rep w8 (fun b=>base≤b) (.slice da A.length dc) (attrsD A):=by rw[←hw8];exact hO.rep'.kept fun b hb _=>Below.heap_setCell _ _ _ _ (by simp only;omega)
   have c0:=blk_cell hT.r3 (k:=0) rfl;have c1:=blk_cell hT.r3 (k:=1) rfl;have c2:=blk_cell hT.r3 (k:=2) rfl;have c3:=blk_cell hT.r3 (k:=3) rfl;have c4:=blk_cell hT.r3 (k:=4) rfl
   have d0:=blk_cell hT.r2 (k:=0) rfl;have d1:=blk_cell hT.r2 (k:=1) rfl;have d2:=blk_cell hT.r2 (k:=2) rfl;have d3:=blk_cell hT.r2 (k:=3) rfl;have d4:=blk_cell hT.r2 (k:=4) rfl
   have f0:=blk_free (k:=0) hT.r2;have f1:=blk_free (k:=1) hT.r2;have f2:=blk_free (k:=2) hT.r2;have f3:=blk_free (k:=3) hT.r2;have f4:=blk_free (k:=4) hT.r2
   obtain⟨w9,hw9⟩:∃X,((((w8.setCell ⟨r,0,none⟩ (.int .i64 2)).setCell ⟨r,1,none⟩ (.int .i64 (i:Nat))).setCell ⟨r,2,none⟩ (.string (bs nm))).setCell ⟨r,3,none⟩ (.string ⟨#[]⟩)).setCell ⟨r,4,none⟩ (.slice da A.length dc)=X:=⟨_,rfl⟩
   have hb9:=st5t_blk hT.r2 (.int .i64 2) (.int .i64 (i:Nat)) (.string (bs nm)) (.string ⟨#[]⟩) (.slice da A.length dc)
   have hx9:=hT.st (.int .i64 2) (.int .i64 (i:Nat)) (.string (bs nm)) (.string ⟨#[]⟩) (.slice da A.length dc)
   unfold st5t at hb9 hx9
   rw[hw9]at hb9 hx9
   have HZ9:=Lh (And.intro hb9 hx9)
   clear hb9 hx9
   have HO:=Lh hO8
   clear hT hT7 hO hO8 HE hS7 hX7
   go_wp2_with fail
   refine bodyPost_ret (res_one rfl _ _ _ ⟨r,0,none⟩ ?_ (load_tok HZ9.out.1)) rfl ?_
   ·
    first | rfl | simp
   clear hw9
   have hX9:=HZ9.out.2
   exact⟨_,rfl,(HO.out.kept fun b hb _=>hX9.2.2 b (by omega)).ok fun b hb=>by omega,HH.out.exc hX9.1 hX9.2.1 hme,hX9.1⟩
  ·
   obtain rfl:bq=true:=by rw[←HM.out.2];exact decide_eq_true (by have:=HM.out.1;omega)
   obtain rfl:c2=c:=by rw[←drop_byte hc2];exact hsm
   have x62:((x:Int)==62)=false:=by rw[←hx];exact u8_ne (k:=62) (by decide) (by rw[bne_iff_ne];exact h62)
   have x47:((x:Int)==47)=false:=by rw[←hx];exact u8_ne (k:=47) (by decide) (by rw[bne_iff_ne];exact h47)
   have hTz:=HZ.out.1
   obtain⟨us,hrz,hpz⟩:=HZ.out.2
   have c4:=blk_cell hTz.r3 (k:=4) rfl
   have hgq:q≠g:=by omega
   have hgb:g< base:=by omega
   have hbb:base≤(World.drew wz).heap.size:=hbz
   have hqo:some q≠Value.ownBlock (.slice da A.length dc):=fun e=>by have:=(hrz.lt q e.symm).1;omega
   have hSd:=(hTz.sb HH.out (by omega)).ext ((Ext.refl wz).drew)
   have hp2:m< p2∧p2≤s.length:=by
    obtain⟨n,b1,b2,qq,r1,r2,_,_,_,_,_,_,_,hd2,_,rfl⟩:=ha
    have e:=congrArg List.length hd2
    simp only[List.length_drop,List.length_cons,List.length_append]at e
    omega
   have hall:a.n.length≤9223372036854775807∧a.v.length≤9223372036854775807:=by
    obtain⟨n,b1,b2,qq,r1,r2,hn,hn0,han,_,_,_,_,hd2,_,rfl⟩:=ha
    rw[han,List.length_take]
    omega
   have HC:=Lh (xattribute_any hSd a p2 ha A (fun b=>base≤b) (.slice da A.length dc) ((HZ.out.2.ext ((Ext.refl wz).drew)).rep') (fun b hb=>by omega) hne)
   go_wp2_with fail
   refine region_merge (fun ac ac' w'=>∃(gb:Nat) (v3:Value) (xb:World) (xc:World) (xq:World),ac'=(((((((((ac.put (some 57) (.pointer (some ⟨q,4,none⟩))).put (some 58) (.slice da A.length dc)).put (some 59) (.pointer (some ⟨g,0,none⟩))).put (some 60) (.pointer (some ⟨q,4,none⟩))).put (some 61) (.slice da A.length dc)).put (some 62) (.agg #[.string (bs a.n),.string (bs a.v)])).put (some 63) (.slice (some ⟨gb,0,none⟩) 1 1)).put (some 64) (v3)).put (some 65) (.pointer (some ⟨q,4,none⟩)))∧w'=xc.setCell ⟨q,4,none⟩ v3∧SB g xq s p2 (.slice (some ⟨bb,off,none⟩) s.length bc) ov∧Exc g (World.drew wz) xq∧Ext xq xb∧World.ownsRow xc base 62 2 v3 (A.length+1) (us++ [.string (bs a.n),.string (bs a.v)])∧World.grownBy xb xc (Value.ownBlock (.slice da A.length dc))∧(v3.ownBlock=Value.ownBlock (.slice da A.length dc)∨v3.ownBlock=some xb.heap.size)) ?_ ?_
   ·
    refine rg_aside (S := Sc q 4 (.slice da A.length dc)) 9 ⟨none, .store 23 (.tmp 65) (.tmp 64), 0, "xlex.go:226", #[⟨8, .data⟩, ⟨7, .data⟩, ⟨7, .chain⟩, ⟨0, .phase⟩, ⟨1, .phase⟩, ⟨2, .phase⟩, ⟨3, .phase⟩, ⟨4, .phase⟩, ⟨5, .phase⟩, ⟨6, .phase⟩, ⟨7, .phase⟩], none⟩ (by kernel_rfl) (by decide) rfl rfl (by kernel_rfl) (by kernel_rfl) (show Sc q 4 (.slice da A.length dc) (World.drew wz) from c4) ?_
    have hSy:Sc q 4 (.slice da A.length dc) (World.drew wz):=(show Sc q 4 (.slice da A.length dc) (World.drew wz) from c4)
    simp only[List.setIfInBounds_toArray,List.set_cons_zero,List.set_cons_succ]
    refine rg_t 0 (some 57) (.pointer (some ⟨q,4,none⟩)) rfl hSy (fun w' hs=>by first | rfl | go_simp) ?_
    simp only[Act.put,sA,sZ,sS]
    refine rg_t 1 (some 58) (.slice da A.length dc) rfl hSy (fun w' hs=>by(have h0:=hs.cell trivial trivial;go_simp)) ?_
    simp only[Act.put,sA,sZ,sS]
    refine rg_t 2 (some 59) (.pointer (some ⟨g,0,none⟩)) rfl hSy (fun w' hs=>by rfl) ?_
    simp only[Act.put,sA,sZ,sS]
    refine rg_t 3 (some 60) (.pointer (some ⟨q,4,none⟩)) rfl hSy (fun w' hs=>by first | rfl | go_simp) ?_
    simp only[Act.put,sA,sZ,sS]
    refine rg_t 4 (some 61) (.slice da A.length dc) rfl hSy (fun w' hs=>by(have h0:=hs.cell trivial trivial;go_simp)) ?_
    simp only[Act.put,sA,sZ,sS]
    refine rg_one 5 (by kernel_rfl) ?_
    refine tk_call 5 (some 62) 196 #[.pointer (some ⟨g,0,none⟩),.slice da A.length dc] rfl rfl (by rfl) (fun w'=>by first | rfl | go_simp) (R:=fun v w'=>v= .agg #[.string (bs a.n),.string (bs a.v)]∧SB g w' s p2 (.slice (some ⟨bb,off,none⟩) s.length bc) ov∧Exc g (World.drew wz) w') ?_ ?_
    ·
     exact HC.out.mono fun ed w' ⟨he,h1,h2⟩=>⟨_,he,rfl,h1,h2⟩
    rintro _ xq ⟨rfl,hq1,hq2⟩
    have hSq:Sc q 4 (.slice da A.length dc) xq:=sc_exc hSy hgq hq2
    refine⟨hSq,?_⟩
    simp only[Act.put,sA,sZ,sS]
    refine rg_one 6 (by kernel_rfl) ?_
    refine tk_new 6 (some 63) (.cells #[.string (bs a.n),.string (bs a.v)] 62) (fun n=> .slice (some ⟨n,0,none⟩) 1 1) rfl rfl (by rfl) (by first | rfl | go_simp) ?_
    intro gb xb egb hxb hzxb hC
    have hSb:Sc q 4 (.slice da A.length dc) xb:=sc_ext hSq hxb
    refine⟨hSb,?_⟩
    simp only[Act.put,sA,sZ,sS]
    have hbse:base≤xb.heap.size:=Nat.le_trans hbb (Nat.le_trans hq2.1 hxb.size)
    refine rg_one 7 (by kernel_rfl) ?_
    refine tk_src 7 (some 64) rfl rfl (by rfl) (.tmp 58) (.tmp 63) 23 rfl base 62 i0 (.agg #[.string ⟨#[]⟩,.string ⟨#[]⟩]) 2 32 Tryz.underlying23 hi hz0 hz1 hz2 rfl (by decide) (.slice da A.length dc) A.length us rfl (rows_ext (xrows_exc (rows_ext hrz ((Ext.refl wz).drew)) hq2 hgb) hxb) (.slice (some ⟨gb,0,none⟩) 1 1) 1 [.string (bs a.n),.string (bs a.v)] rfl (Src.block hC rfl) (by intro u hu;simp at hu;rcases hu with rfl | rfl<;> rfl) (by unfold maxLen;omega) (by omega) hbse ?_
    intro v3 xc hr3 hg3 ha3
    have hSc:Sc q 4 (.slice da A.length dc) xc:=sc_grown hSb hg3 hqo
    refine⟨hSc,?_⟩
    simp only[Act.put,sA,sZ,sS]
    refine rg_t 8 (some 65) (.pointer (some ⟨q,4,none⟩)) rfl hSc (fun w' hs=>by first | rfl | go_simp) ?_
    simp only[Act.put,sA,sZ,sS]
    refine rg_t 9 none (.bool true) rfl hSc (fun w' hs=>by rfl) ?_
    simp only[Act.put,sA,sZ,sS]
    refine rg_done (by kernel_rfl) ?_
    obtain⟨v3a,v3c,rfl⟩:=own_form hr3
    have c4c:=hSc
    have f4c:=blk_free (k:=4) (blk_chain (wz:=World.drew wz) hTz.r3 hq2 hgq hxb hg3 hqo)
    refine qlast_normal ?_
    refine tk_write 9 none (xc.setCell ⟨q,4,none⟩ (.slice v3a (A.length+1) v3c)) (by rfl) rfl (by rfl) (exec_store rfl (store_slice _ s1Attrs c4c f4c _ _ _)) ?_
    exact⟨gb,(.slice v3a (A.length+1) v3c),xb,xc,xq,(by first | rfl | simp only[Act.put,sA,sZ,sS]),rfl,hq1,hq2,hxb,hr3,hg3,ha3⟩
   rintro _ w9 ⟨gb,v3,xb,xc,xq,rfl,hw9,hq1,hq2,hxb,hr3,hg3,ha3⟩
   simp only[Act.put,sA,sZ,sS]
   have HT9:=hTz.ext ((Ext.refl wz).drew)
   have HB9:=((HT9.call hq1.blk hq2).ext hxb).app hg3 (fun k hk=>by have:=(hrz.lt k hk).1;omega)
   have HC9:=HB9.set 4 v3
   simp only[List.setIfInBounds_toArray,List.set_cons_zero,List.set_cons_succ]at HC9
   have HO9:Own xc (fun _=>False) base 62 2 v3 (A++ [a]).length ((A++ [a]).flatMap attrC):=by
    rw[List.length_append,List.flatMap_append,List.flatMap_singleton,List.length_singleton]
    have hpn:Reps xb (fun b=>False∧some b≠Value.ownBlock (.slice da A.length dc)∧b< xb.heap.size) us (A.flatMap attrC):=((hpz.kept fun b hb=>hb.1.elim).ok fun b hb=>hb.1.elim)
    exact Own.push hpn (Reps.cons (Rep.string _ _ _ (by rw[bs_size];exact hall.1)) (Reps.cons (Rep.string _ _ _ (by rw[bs_size];exact hall.2)) (Reps.nil _ _))) hr3 hg3 ha3
   obtain⟨us9,hr9,hp9⟩:=HO9
   have HO9':Own w9 (fun _=>False) base 62 2 v3 (A++ [a]).length ((A++ [a]).flatMap attrC):=by
    rw[hw9]
    exact⟨us9,rows_set hr9 (p:=⟨q,4,none⟩) (fun e=>by have:=(hr9.lt q e.symm).1;omega) _,(hp9.kept fun b hb=>hb.1.elim).ok fun b hb=>hb.1.elim⟩
   rw[←hw9]at HC9
   have hs9:base≤w9.heap.size:=by rw[hw9];exact Nat.le_trans hbb (Nat.le_trans hq2.1 (Nat.le_trans hxb.size (by simpa using hg3.size)))
   have HE:=Lh (show atQ s.length g w9=s.length - p2 by simp only[atQ,blk_cell HC9.b (k:=1) rfl];rfl)
   have HR:=Lh (And.intro HC9 (And.intro HO9' hrest))
   clear hTz hrz hpz c4 hSd HC hw9 hq1 hq2 hxb hr3 hg3 ha3 HT9 HB9 HC9 hr9 hp9 HO9' hrest HZ
   go_wp2_with fail
   go_roundw
   case rel=>exact⟨p2,A++ [a],v3,hs9,by simp;omega,HR⟩
   case measure=>rw[HMZ.out,HE.out];omega
end
structure TokX where
 kind:Int
 at':Nat
 name:Bytes
 text:Bytes
 attrs:List Attr
def tkC (t:TokX):List DV:= [intD t.kind,intD t.at',strD t.name,strD t.text,attrsD t.attrs]
def tksD (l:List TokX):DV:= .s 5 (l.flatMap tkC)
theorem z_tk (t:TokX):(tkC t).length=5:=rfl
def TokR (s:Bytes) (p:Nat) (t:TokX) (e:Nat):Prop:=
 (∃v r,s.drop p=v++60::r∧v≠ []∧(∀c∈v,plC c=true)∧t=⟨4,p,[],v,[]⟩∧e=p+v.length)∨
 (∃nm r,s.drop p=60::47::r∧EndR s p nm e∧t=⟨3,p,nm,[],[]⟩)∨
 ∃c r n k B,s.drop p=60::c::r∧c≠33∧c≠63∧c≠47∧nameS (s.drop (p+1))=n∧0< n∧TagR s (p+1+n) [] k B e∧t=⟨k,p,(s.drop (p+1)).take n,[],B⟩
theorem TokR.lt {s:Bytes} {p:Nat} {t:TokX} {e:Nat} (h:TokR s p t e):p< s.length:=by
 rcases h with⟨v,r,h,h2,_⟩ | ⟨nm,r,h,_⟩ | ⟨c,r,n,k,B,h,_⟩
 ·
  have:=congrArg List.length h
  simp only[List.length_drop,List.length_append,List.length_cons]at this
  omega
 ·
  exact drop_lt h
 ·
  exact drop_lt h
section
variable {g r:Nat} {W W' w w':World} {s:Bytes} {i j p e:Nat} {bv ov:Value}
theorem st5t_keep (w:World) (r:Nat) (a0 a1 a2 a3 a4:Value):(∀b,b≠r→(st5t w r a0 a1 a2 a3 a4).heap[b]? =w.heap[b]?)∧(∀(g:Nat) (W:World),W.heap.size≤r→Exc g W w→Exc g W (st5t w r a0 a1 a2 a3 a4)):=by
 refine⟨fun b hb=> ?_,fun g W hr h=> ?_⟩
 ·
  unfold st5t
  rw[Below.heap_setCell _ _ _ _ (by simpa using hb),Below.heap_setCell _ _ _ _ (by simpa using hb),Below.heap_setCell _ _ _ _ (by simpa using hb),Below.heap_setCell _ _ _ _ (by simpa using hb),Below.heap_setCell _ _ _ _ (by simpa using hb)]
 ·
  unfold st5t
  exact((((h.new hr 0 a0).new hr 1 a1).new hr 2 a2).new hr 3 a3).new hr 4 a4
theorem token_any (h:SB g W s p bv ov) (t:TokX) (hT:TokR s p t e):Calls Tryz.prog 98 #[.pointer (some ⟨g,0,none⟩)] W (TkRet g W s e bv ov t.kind t.at' t.name t.text t.attrs):=by
 have hps:=hT.lt
 obtain⟨bb,off,bc,rfl,hcap,hbc⟩:=h.slice (by omega)
 have hl:=h.hl
 have hlt:=h.lt
 obtain⟨w1,hw1⟩:∃X,W.alloc (.cells #[.int .i64 0,.int .i64 0,.string ⟨#[]⟩,.string ⟨#[]⟩,.slice none 0 0] 74)=X:=⟨_,rfl⟩
 have hE1:Ext W w1:=by rw[←hw1];exact(Ext.refl W).alloc _
 obtain⟨r,hr⟩:∃r,W.heap.size=r:=⟨_,rfl⟩
 have hb1:w1.heap[r]? =some (.cells #[.int .i64 0,.int .i64 0,.string ⟨#[]⟩,.string ⟨#[]⟩,.slice none 0 0] 74 (0,0)):=by rw[←hw1,←hr];exact Array.getElem?_push_size ..
 have hS1:=h.ext hE1
 have c0:=hS1.c0;have c1:=hS1.c1
 obtain⟨hbl,cm⟩:=hS1.byte hps
 have HH:=Lh (And.intro hE1 (And.intro hb1 hS1))
 have hgr:g< r:=by omega
 -- what is to be shown behind the call that reads the token
 have HF:=Lh (show∀(w2 w3 w9:World) (va:Value),Exc g W w2→w2.heap[r]? =some (.cells #[.int .i64 0,.int .i64 0,.string ⟨#[]⟩,.string ⟨#[]⟩,.slice none 0 0] 74 (0,0))→Exc g w2 w3→SB g w3 s e (.slice (some ⟨bb,off,none⟩) s.length bc) ov→Rep w3 (fun b=>w2.heap.size≤b) va (attrsD t.attrs)→(∀b,b≠r→w9.heap[b]? =w3.heap[b]?)→(∀W:World,W.heap.size≤r→Exc g W w3→Exc g W w9)→
   Rep w9 (fun b=>W.heap.size≤b) va (attrsD t.attrs)∧SB g w9 s e (.slice (some ⟨bb,off,none⟩) s.length bc) ov∧Exc g W w9 from fun w2 w3 w9 va h1 h2 h3 h4 h5 h6 h7=>by
  have hs:=blk_lt h2
  have hX:=h7 W (by omega) (h1.trans h3)
  refine⟨(h5.kept fun b hb _=>h6 b (by omega)).ok fun b hb=>by omega,h.exc hX ((h6 g (by omega)).trans h4.blk) h4.hi,hX⟩)
 clear hE1 hb1 hS1 h
 rcases hT with⟨v,rr,hd,hv0,hv,rfl,rfl⟩ | ⟨nm,rr,hd,hE,rfl⟩ | ⟨c,rr,n,k,B,hd,h33,h63,h47,hn,hn0,hG,rfl⟩
 ·
  obtain⟨c,v',rfl⟩:∃c v',v=c::v':=by
   cases v with
   | nil=>exact absurd rfl hv0
   | cons c v'=>exact⟨c,v',rfl⟩
  have hsp:s[p]'hps=c:=drop_byte (r:=v'++60::rr) hd
  have hc60:=hv c (List.mem_cons_self ..)
  simp only[plC,Bool.and_eq_true]at hc60
  obtain⟨x,hx⟩:∃x:Nat,c.toNat=x:=⟨_,rfl⟩
  have x60:((x:Int)==60)=false:=by rw[←hx];exact u8_ne (k:=60) (by decide) hc60.1.1.1
  have x60':((x:Int) !=60)=true:=by unfold bne;rw[x60];rfl
  rw[hsp,hx]at cm
  have HD:=Lh (And.intro hd hv)
  clear hd hv hsp hc60 hx hv0
  go_enter Tryz.func98,Tryz.ntmps98
  go_wp2_with fail
  go_quiet (fail)
  obtain⟨w2,hw2⟩:∃w,w1.drewN nq=w:=⟨_,rfl⟩
  have Ehw2:Ext w1 w2:=by rw[←hw2];exact(Ext.refl w1).drewN _
  rw[hw2]
  have hX2:=Exc.of g (HH.out.1.trans Ehw2)
  have hb2:=(Below.block Ehw2 r (blk_lt HH.out.2.1)).trans HH.out.2.1
  have hS2:=HH.out.2.2.ext Ehw2
  clear hw2 c0 c1 cm hbl hw1
  go_wp2_with fail
  try rw[hr]
  refine(xchars_any hS2 (c::v') rr HD.out.1 HD.out.2).mono ?_
  rintro e w3 ⟨rfl,hS3,hX3⟩
  have hb3:=(hX3.2 r (by omega) (blk_lt hb2)).trans hb2
  have d0:=blk_cell hb3 (k:=0) rfl;have d1:=blk_cell hb3 (k:=1) rfl;have d2:=blk_cell hb3 (k:=2) rfl;have d3:=blk_cell hb3 (k:=3) rfl;have d4:=blk_cell hb3 (k:=4) rfl
  have f0:=blk_free (k:=0) hb3;have f1:=blk_free (k:=1) hb3;have f2:=blk_free (k:=2) hb3;have f3:=blk_free (k:=3) hb3;have f4:=blk_free (k:=4) hb3
  obtain⟨w9,hw9⟩:∃X,((((w3.setCell ⟨r,0,none⟩ (.int .i64 4)).setCell ⟨r,1,none⟩ (.int .i64 (p:Nat))).setCell ⟨r,2,none⟩ (.string ⟨#[]⟩)).setCell ⟨r,3,none⟩ (.string (bs (c::v')))).setCell ⟨r,4,none⟩ (.slice none 0 0)=X:=⟨_,rfl⟩
  have hb9:=st5t_blk hb3 (.int .i64 4) (.int .i64 (p:Nat)) (.string ⟨#[]⟩) (.string (bs (c::v'))) (.slice none 0 0)
  have hk9:=st5t_keep w3 r (.int .i64 4) (.int .i64 (p:Nat)) (.string ⟨#[]⟩) (.string (bs (c::v'))) (.slice none 0 0)
  unfold st5t at hb9 hk9
  rw[hw9]at hb9 hk9
  have HZ9:=Lh (And.intro hb9 (HF.out w2 w3 w9 (.slice none 0 0) hX2 hb2 hX3 hS3 (.nil 2) hk9.1 (hk9.2 g)))
  clear hb9 hk9 hb3 hX3 hS3 hb2 hX2 hS2 HF
  go_wp2_with fail
  refine bodyPost_ret (res_one rfl _ _ _ ⟨r,0,none⟩ ?_ (load_tok HZ9.out.1)) rfl ?_
  ·
   first | rfl | simp
  clear hw9
  exact⟨_,rfl,HZ9.out.2⟩
 ·
  have hsp:s[p]'hps=60:=drop_byte hd
  rw[hsp]at cm
  replace cm:w1.cell? ⟨bb,off+p,none⟩=some (.int .u8 60):=cm
  have HD:=Lh (And.intro hd hE)
  clear hd hE hsp
  go_enter Tryz.func98,Tryz.ntmps98
  go_wp2_with fail
  go_quiet (fail)
  obtain⟨w2,hw2⟩:∃w,w1.drewN nq=w:=⟨_,rfl⟩
  have Ehw2:Ext w1 w2:=by rw[←hw2];exact(Ext.refl w1).drewN _
  rw[hw2]
  have hX2:=Exc.of g (HH.out.1.trans Ehw2)
  have hb2:=(Below.block Ehw2 r (blk_lt HH.out.2.1)).trans HH.out.2.1
  have hS2:=HH.out.2.2.ext Ehw2
  clear hw2 c0 c1 cm hbl hw1
  go_wp2_with fail
  try rw[hr]
  refine(has_any hS2 hps [60,33] (by simp)).mono ?_
  rintro e1 w2 ⟨rfl,hEh⟩
  rw[show hasS (s.drop p) [60,33]=false by rw[HD.out.1];rfl]
  replace hX2:=hX2.ext hEh
  replace hb2:=(Below.block hEh r (blk_lt hb2)).trans hb2
  replace hS2:=hS2.ext hEh
  clear hEh
  go_wp2_with fail
  refine(has_any hS2 hps [60,63] (by simp)).mono ?_
  rintro e1 w2 ⟨rfl,hEh⟩
  rw[show hasS (s.drop p) [60,63]=false by rw[HD.out.1];rfl]
  replace hX2:=hX2.ext hEh
  replace hb2:=(Below.block hEh r (blk_lt hb2)).trans hb2
  replace hS2:=hS2.ext hEh
  clear hEh
  go_wp2_with fail
  refine(has_any hS2 hps [60,47] (by simp)).mono ?_
  rintro e1 w2 ⟨rfl,hEh⟩
  rw[show hasS (s.drop p) [60,47]=true by rw[HD.out.1];rfl]
  replace hX2:=hX2.ext hEh
  replace hb2:=(Below.block hEh r (blk_lt hb2)).trans hb2
  replace hS2:=hS2.ext hEh
  clear hEh
  go_wp2_with fail
  refine(end_any hS2 nm e HD.out.2).mono ?_
  rintro e1 w3 ⟨rfl,hS3,hX3⟩
  have hb3:=(hX3.2 r (by omega) (blk_lt hb2)).trans hb2
  have d0:=blk_cell hb3 (k:=0) rfl;have d1:=blk_cell hb3 (k:=1) rfl;have d2:=blk_cell hb3 (k:=2) rfl;have d3:=blk_cell hb3 (k:=3) rfl;have d4:=blk_cell hb3 (k:=4) rfl
  have f0:=blk_free (k:=0) hb3;have f1:=blk_free (k:=1) hb3;have f2:=blk_free (k:=2) hb3;have f3:=blk_free (k:=3) hb3;have f4:=blk_free (k:=4) hb3
  obtain⟨w9,hw9⟩:∃X,((((w3.setCell ⟨r,0,none⟩ (.int .i64 3)).setCell ⟨r,1,none⟩ (.int .i64 (p:Nat))).setCell ⟨r,2,none⟩ (.string (bs nm))).setCell ⟨r,3,none⟩ (.string ⟨#[]⟩)).setCell ⟨r,4,none⟩ (.slice none 0 0)=X:=⟨_,rfl⟩
  have hb9:=st5t_blk hb3 (.int .i64 3) (.int .i64 (p:Nat)) (.string (bs nm)) (.string ⟨#[]⟩) (.slice none 0 0)
  have hk9:=st5t_keep w3 r (.int .i64 3) (.int .i64 (p:Nat)) (.string (bs nm)) (.string ⟨#[]⟩) (.slice none 0 0)
  unfold st5t at hb9 hk9
  rw[hw9]at hb9 hk9
  have HZ9:=Lh (And.intro hb9 (HF.out w2 w3 w9 (.slice none 0 0) hX2 hb2 hX3 hS3 (.nil 2) hk9.1 (hk9.2 g)))
  clear hb9 hk9 hb3 hX3 hS3 hb2 hX2 hS2 HF
  go_wp2_with fail
  refine bodyPost_ret (res_one rfl _ _ _ ⟨r,0,none⟩ ?_ (load_tok HZ9.out.1)) rfl ?_
  ·
   first | rfl | simp
  clear hw9
  exact⟨_,rfl,HZ9.out.2⟩
 ·
  have hsp:s[p]'hps=60:=drop_byte hd
  rw[hsp]at cm
  replace cm:w1.cell? ⟨bb,off+p,none⟩=some (.int .u8 60):=cm
  have HD:=Lh (And.intro hd (And.intro hn (And.intro hn0 (And.intro hG (And.intro h33 (And.intro h63 h47))))))
  obtain⟨nm,hnm⟩:∃x,(s.drop (p+1)).take n=x:=⟨_,rfl⟩
  rw[hnm]at HF⊢
  have HNM:=Lh hnm
  clear hd hn hn0 hG hsp h33 h63 h47 hnm
  go_enter Tryz.func98,Tryz.ntmps98
  go_wp2_with fail
  go_quiet (fail)
  obtain⟨w2,hw2⟩:∃w,w1.drewN nq=w:=⟨_,rfl⟩
  have Ehw2:Ext w1 w2:=by rw[←hw2];exact(Ext.refl w1).drewN _
  rw[hw2]
  have hX2:=Exc.of g (HH.out.1.trans Ehw2)
  have hb2:=(Below.block Ehw2 r (blk_lt HH.out.2.1)).trans HH.out.2.1
  have hS2:=HH.out.2.2.ext Ehw2
  clear hw2 c0 c1 cm hbl hw1
  go_wp2_with fail
  try rw[hr]
  refine(has_any hS2 hps [60,33] (by simp)).mono ?_
  rintro e1 w2 ⟨rfl,hEh⟩
  rw[show hasS (s.drop p) [60,33]=false by rw[HD.out.1];simp[hasS,List.isPrefixOf];exact fun e=>HD.out.2.2.2.2.1 e.symm]
  replace hX2:=hX2.ext hEh
  replace hb2:=(Below.block hEh r (blk_lt hb2)).trans hb2
  replace hS2:=hS2.ext hEh
  clear hEh
  go_wp2_with fail
  refine(has_any hS2 hps [60,63] (by simp)).mono ?_
  rintro e1 w2 ⟨rfl,hEh⟩
  rw[show hasS (s.drop p) [60,63]=false by rw[HD.out.1];simp[hasS,List.isPrefixOf];exact fun e=>HD.out.2.2.2.2.2.1 e.symm]
  replace hX2:=hX2.ext hEh
  replace hb2:=(Below.block hEh r (blk_lt hb2)).trans hb2
  replace hS2:=hS2.ext hEh
  clear hEh
  go_wp2_with fail
  refine(has_any hS2 hps [60,47] (by simp)).mono ?_
  rintro e1 w2 ⟨rfl,hEh⟩
  rw[show hasS (s.drop p) [60,47]=false by rw[HD.out.1];simp[hasS,List.isPrefixOf];exact fun e=>HD.out.2.2.2.2.2.2 e.symm]
  replace hX2:=hX2.ext hEh
  replace hb2:=(Below.block hEh r (blk_lt hb2)).trans hb2
  replace hS2:=hS2.ext hEh
  clear hEh
  go_wp2_with fail
  refine(tag_any hS2 n nm k B e HD.out.2.1 HD.out.2.2.1 HNM.out.symm HD.out.2.2.2.1).mono ?_
  rintro e1 w3 ⟨va,rfl,hva,hS3,hX3⟩
  obtain⟨xa,xc,rfl,_,_⟩:=hva.count z_attr (by omega)
  have hb3:=(hX3.2 r (by omega) (blk_lt hb2)).trans hb2
  have d0:=blk_cell hb3 (k:=0) rfl;have d1:=blk_cell hb3 (k:=1) rfl;have d2:=blk_cell hb3 (k:=2) rfl;have d3:=blk_cell hb3 (k:=3) rfl;have d4:=blk_cell hb3 (k:=4) rfl
  have f0:=blk_free (k:=0) hb3;have f1:=blk_free (k:=1) hb3;have f2:=blk_free (k:=2) hb3;have f3:=blk_free (k:=3) hb3;have f4:=blk_free (k:=4) hb3
  obtain⟨w9,hw9⟩:∃X,((((w3.setCell ⟨r,0,none⟩ (.int .i64 k)).setCell ⟨r,1,none⟩ (.int .i64 (p:Nat))).setCell ⟨r,2,none⟩ (.string (bs nm))).setCell ⟨r,3,none⟩ (.string (bs []))).setCell ⟨r,4,none⟩ (.slice xa B.length xc)=X:=⟨_,rfl⟩
  have hb9:=st5t_blk hb3 (.int .i64 k) (.int .i64 (p:Nat)) (.string (bs nm)) (.string (bs [])) (.slice xa B.length xc)
  have hk9:=st5t_keep w3 r (.int .i64 k) (.int .i64 (p:Nat)) (.string (bs nm)) (.string (bs [])) (.slice xa B.length xc)
  unfold st5t at hb9 hk9
  rw[hw9]at hb9 hk9
  have HZ9:=Lh (And.intro hb9 (HF.out w2 w3 w9 _ hX2 hb2 hX3 hS3 hva hk9.1 (hk9.2 g)))
  clear hb9 hk9 hb3 hX3 hS3 hb2 hX2 hS2 HF hva
  go_wp2_with fail
  refine bodyPost_ret (res_one rfl _ _ _ ⟨r,0,none⟩ ?_ (load_tok HZ9.out.1)) rfl ?_
  ·
   first | rfl | simp
  clear hw9
  exact⟨_,rfl,HZ9.out.2⟩
theorem decl_any (h:SB g W s i bv ov) (hi:i< s.length) (hd:hasS (s.drop i) [60,63,120,109,108]=false):Calls Tryz.prog 97 #[.pointer (some ⟨g,0,none⟩)] W fun e w'=>e= .returned (.tuple #[])∧Ext W w':=by
 obtain⟨bb,off,bc,rfl,hcap,hbc⟩:=h.slice (by omega)
 have hlt:=h.lt
 have hl:=h.hl
 have c0:=h.c0
 have c1:=h.c1
 obtain⟨wz,hwz⟩:∃wz,wz=W:=⟨_,rfl⟩
 subst hwz
 have HD:=Lh (show∀W',Ext wz W'→Calls Tryz.prog 141 #[.pointer (some ⟨g,0,none⟩),.string (bs [60,63,120,109,108])] W' fun e w'=>e= .returned (.bool false)∧Ext W' w' from fun W' hE=>by rw[←hd];exact has_any (h.ext hE) hi _ (by simp))
 clear h hd
 go_enter Tryz.func97,Tryz.ntmps97
 go_wp2_with fail
 refine rg_begin (S:=Sx wz) (by kernel_rfl) (Sx.begin _) ?_
 have hS:Sx wz (World.drew wz):=(Sx.begin _)
 refine rg_t 0 (some 2) (.pointer (some ⟨g,0,none⟩)) rfl hS (fun w' hs=>by rfl) ?_
 simp only[Act.put,sA,sZ,sS]
 refine rg_call 1 (some 3) 141 #[.pointer (some ⟨g,0,none⟩),.string {data:= #[60,63,120,109,108]}] rfl rfl (by kernel_rfl) (by rfl) (fun w'=>by first | rfl | go_simp) (R:=fun v w'=>v= .bool false∧Ext (World.drew wz) w') ?_ ?_
 ·
  refine(HD.out (World.drew wz) (show Ext wz (World.drew wz) from hS)).mono ?_
  rintro e w' ⟨rfl,h⟩
  exact⟨_,rfl,rfl,h⟩
 rintro _ wr1 ⟨rfl,hBr1⟩
 have hS1:=hS.ext hBr1
 refine⟨hS1,?_⟩
 simp only[Act.put,sA,sZ,sS]
 refine rg_t 2 (some 4) (.bool true) rfl hS1 (fun w' hs=>by first | rfl | go_simp) ?_
 simp only[Act.put,sA,sZ,sS]
 refine rg_t 3 (some 5) (.bool true) rfl hS1 (fun w' hs=>by rfl) ?_
 simp only[Act.put,sA,sZ,sS]
 refine rg_s 4 (some 6) rfl hS1 ?_
 simp only[Act.put,sA,sZ,sS]
 refine rg_s 5 (some 7) rfl hS1 ?_
 simp only[Act.put,sA,sZ,sS]
 refine rg_s 6 (some 8) rfl hS1 ?_
 simp only[Act.put,sA,sZ,sS]
 refine rg_s 7 (some 9) rfl hS1 ?_
 simp only[Act.put,sA,sZ,sS]
 refine rg_s 8 (some 10) rfl hS1 ?_
 simp only[Act.put,sA,sZ,sS]
 refine rg_s 9 (some 11) rfl hS1 ?_
 simp only[Act.put,sA,sZ,sS]
 refine rg_s 10 (some 12) rfl hS1 ?_
 simp only[Act.put,sA,sZ,sS]
 refine rg_s 11 (some 13) rfl hS1 ?_
 simp only[Act.put,sA,sZ,sS]
 refine rg_s 12 (some 14) rfl hS1 ?_
 simp only[Act.put,sA,sZ,sS]
 refine rg_s 13 (some 15) rfl hS1 ?_
 simp only[Act.put,sA,sZ,sS]
 refine rg_s 14 (some 16) rfl hS1 ?_
 simp only[Act.put,sA,sZ,sS]
 refine rg_s 15 (some 17) rfl hS1 ?_
 simp only[Act.put,sA,sZ,sS]
 refine rg_s 16 (some 18) rfl hS1 ?_
 simp only[Act.put,sA,sZ,sS]
 refine rg_s 17 (some 19) rfl hS1 ?_
 simp only[Act.put,sA,sZ,sS]
 refine rg_s 18 (some 20) rfl hS1 ?_
 simp only[Act.put,sA,sZ,sS]
 refine rg_s 19 (some 21) rfl hS1 ?_
 simp only[Act.put,sA,sZ,sS]
 refine rg_s 20 (some 22) rfl hS1 ?_
 simp only[Act.put,sA,sZ,sS]
 refine rg_s 21 (some 23) rfl hS1 ?_
 simp only[Act.put,sA,sZ,sS]
 refine rg_s 22 (some 24) rfl hS1 ?_
 simp only[Act.put,sA,sZ,sS]
 refine rg_s 23 (some 25) rfl hS1 ?_
 simp only[Act.put,sA,sZ,sS]
 refine rg_s 24 (some 26) rfl hS1 ?_
 simp only[Act.put,sA,sZ,sS]
 refine rg_s 25 (some 27) rfl hS1 ?_
 simp only[Act.put,sA,sZ,sS]
 refine rg_s 26 (some 28) rfl hS1 ?_
 simp only[Act.put,sA,sZ,sS]
 refine rg_s 27 (some 29) rfl hS1 ?_
 simp only[Act.put,sA,sZ,sS]
 refine rg_t 28 (some 30) (.bool true) rfl hS1 (fun w' hs=>by rfl) ?_
 simp only[Act.put,sA,sZ,sS]
 refine rg_done (by kernel_rfl) ?_
 go_wp2_with fail
 exact bodyPost_ret (results_none rfl _ _ _) rfl ⟨rfl,hS1⟩
end
theorem catch_ok (r0 r1:Nat) (W:World):
  CallsD Tryz.prog 96 #[.pointer (some ⟨r0,0,none⟩),.pointer (some ⟨r1,0,none⟩)] .returning W fun e u' w'=>e= .returned (.tuple #[])∧u'= .returning∧w'=W:=by
 refine callsD_of_wpS Tryz.func96 rfl fun c₀ cs hu=> ?_
 apply wpS_seq
 apply wpS_region
 simp[wpOpsS,go_sem,recoverD,hu,Tryz.ntmps96,Exit.thenS]
 refine wpS_of_wp ?_
 change Code.wp _ _ _ {tmps:= #[.pointer (some ⟨r0,0,none⟩),.pointer (some ⟨r1,0,none⟩),undef,undef,undef,.nilIface,undef,undef,undef,undef,undef,undef,undef,undef,undef],defers:= []} W
 go_wp2_with fail
 exact⟨rfl,c₀.mode,rfl,_,results_none rfl _ _ _,rfl,hu,rfl⟩
end Go.Proofs.YtebhipeeogoagaaGreatDoor
