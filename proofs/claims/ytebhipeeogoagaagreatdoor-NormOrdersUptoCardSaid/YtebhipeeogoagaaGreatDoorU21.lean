/-
 The lexer's value,characters. Helper lemmas;no statement of the seat is proved here.
-/
import Derived.Test.YtebhipeeogoagaaGreatDoorU20
namespace Go.Proofs.YtebhipeeogoagaaGreatDoor
open Go.RowKit
set_option maxHeartbeats 32000000
set_option maxRecDepth 100000
set_option linter.unusedVariables false
set_option linter.unusedSimpArgs false
def plV (q c:UInt8):Bool:=c !=q && c !=60 && c !=38 && c !=9 && c !=10 && c !=13
theorem u8_ne {c:UInt8} {k:Nat} (hk:k< 256) (h:(c !=UInt8.ofNat k)=true):((c.toNat:Int)==(k:Int))=false:=by
 rw[beq_eq_false_iff_ne]
 intro e
 have e1:c.toNat=k:=by omega
 rw[bne_iff_ne]at h
 exact h (by rw[←e1,UInt8.ofNat_toNat])
section
variable {g:Nat} {W W':World} {s:Bytes} {i:Nat} {bv ov:Value}
theorem SB.exc (h:SB g W s i bv ov) (hX:Exc g W W') {j:Nat} {ov':Value} (hb:W'.heap[g]? =some (.cells #[bv,.int .i64 j,ov'] 116 (0,0))) (hj:j≤s.length):SB g W' s j bv ov':=
 ⟨hb,h.row.exc (fun b hb=>hb) hX,hj,h.hl,fun W2 h2=>h.tb W2 (hX.trans h2)⟩
theorem blk_app {w w5:World} {o o2:Obj} {row:Option Nat} (h:w.heap[g]? =some o) (hg:World.grownBy (w.alloc o2) w5 row) (hn:some g≠row):w5.heap[g]? =some o:=
 (hg.block g (Nat.lt_of_lt_of_le (blk_lt h) ((Ext.refl w).alloc o2).size) hn).trans ((Below.block ((Ext.refl w).alloc o2) g (blk_lt h)).trans h)
theorem Exc.app {g:Nat} {a w w5:World} {o2:Obj} {row:Option Nat} (h:Exc g a w) (hg:World.grownBy (w.alloc o2) w5 row) (hr:∀k,row=some k→a.heap.size≤k):Exc g a w5:=
 (h.ext ((Ext.refl w).alloc o2)).grown hg hr
theorem own_conv {base:Nat} {dv:Value} {L:Bytes} (h:W.ownsRow base 5 1 dv L.length (rowB L)):(convert 44 9 dv).run Tryz.prog W= .ok (.string (bs L)) W:=by
 rcases h.2 with⟨rfl,h0⟩ | ⟨b,cap,cur,rfl,hb,hg,h3⟩
 ·
  obtain rfl:L= []:=List.eq_nil_of_length_eq_zero h0
  exact run_convert_bytes_back (P:=Tryz.prog) W 44 9 5 ⟨0,0,none⟩ 0 [] Tryz.underlying44 Tryz.underlying5 Tryz.underlying9 (fun j hj=>absurd hj (Nat.not_lt_zero _)) |> fun _=>by go_simp;rfl
 ·
  exact run_convert_bytes_back (P:=Tryz.prog) W 44 9 5 ⟨b,0,none⟩ cap L Tryz.underlying44 Tryz.underlying5 Tryz.underlying9 (fun j hj=>h.cells (g:=b) rfl j _ (by simp[rowB,byI,hj]))
theorem rowB_take {v:Bytes} {k:Nat} (h:k< v.length):rowB (v.take (k+1))=rowB (v.take k)++ [.int .u8 (v[k].toNat:Int)]:=by
 rw[List.take_succ_eq_append_getElem h,rowB_app];rfl
theorem xvalue_any (h:SB g W s i bv ov) (q:UInt8) (v r:Bytes) (hq:q=34∨q=39) (ht:s.drop i=q::(v++q::r)) (hv:∀c∈v,plV q c=true):Calls Tryz.prog 221 #[.pointer (some ⟨g,0,none⟩)] W fun e w'=>e= .returned (.string (bs v))∧SB g w' s (i+v.length+2) bv ov∧Exc g W w':=by
 obtain⟨i0,hi0',hz0,hz1,hz2⟩:=info_parts infoU8
 obtain⟨hlen,hgt⟩:=drop_at (t:=q::(v++ [q])) (r:=r) (by simpa using ht) h.hi
 simp only[List.length_cons,List.length_append,List.length_nil]at hlen
 have his:i< s.length:=by omega
 have hq0:s[i]=q:=hgt 0 (by simp) (by omega)
 have hv1:∀(k:Nat) (hk:k< v.length),s[i+1+k]'(by omega)=v[k]:=fun k hk=>by
  have:=hgt (k+1) (by simp;omega) (by omega)
  simp only[List.getElem_cons_succ]at this
  rw[List.getElem_append_left hk]at this
  rw[←this];congr 1;omega
 have hq1:s[i+1+v.length]'(by omega)=q:=by
  have:=hgt (v.length+1) (by simp) (by omega)
  simp only[List.getElem_cons_succ]at this
  rw[List.getElem_append_right (Nat.le_refl _)]at this
  simp only[Nat.sub_self,List.getElem_cons_zero]at this
  rw[←this];congr 1;omega
 obtain⟨qz,hqz⟩:∃z:Int,(q.toNat:Int)=z:=⟨_,rfl⟩
 have hqo:qz=34∨qz=39:=by rcases hq with rfl | rfl<;> simp_all
 have HV:=Lh (show∀(k:Nat) (hk:k< v.length),((v[k].toNat:Int)==qz)=false∧((v[k].toNat:Int)==60)=false∧((v[k].toNat:Int)==38)=false∧((v[k].toNat:Int)==9)=false∧((v[k].toNat:Int)==10)=false∧((v[k].toNat:Int)==13)=false from fun k hk=>by
  have h:=hv _ (List.getElem_mem hk)
  simp only[plV,Bool.and_eq_true]at h
  obtain⟨⟨⟨⟨⟨h1,h2⟩,h3⟩,h4⟩,h5⟩,h6⟩:=h
  refine⟨?_,u8_ne (by decide) h2,u8_ne (by decide) h3,u8_ne (by decide) h4,u8_ne (by decide) h5,u8_ne (by decide) h6⟩
  rw[←hqz]
  exact u8_ne (UInt8.toNat_lt q) (by rw[UInt8.ofNat_toNat];exact h1))
 obtain⟨bb,off,bc,rfl,hcap,hbc⟩:=h.slice (by omega)
 have hl:=h.hl
 have hlt:=h.lt
 have HN:=Lh (need_any h his)
 have HS:=Lh (And.intro h (Exc.refl g W))
 have H1:=Lh hv1
 have H2:Hid (((s[i+1+v.length]'(by omega)).toNat:Int)=qz):=Lh (by rw[hq1];exact hqz)
 have H0:Hid ((s[i].toNat:Int)=qz):=Lh (by rw[hq0];exact hqz)
 have HH:=Lh h
 clear hq ht hv hgt hq0 hv1 hq1 hqz h
 go_enter Tryz.func221,Tryz.ntmps221
 go_wp2_with fail
 refine HN.out.mono ?_
 rintro e w1 ⟨rfl,hE1⟩
 have hS1:=HS.out.1.ext hE1
 have c0:=hS1.c0;have c1:=hS1.c1
 obtain⟨hbl,cm⟩:=hS1.byte his
 rw[H0.out]at cm
 replace HS:=Lh (And.intro hS1 (HS.out.2.ext hE1))
 clear HN hE1 hS1
 go_wp2_with fail
 go_quiet (fail)
 obtain⟨w2,hw2⟩:∃w,w1.drewN nq=w:=⟨_,rfl⟩
 have Ehw2:Ext w1 w2:=by rw[←hw2];exact(Ext.refl w1).drewN _
 rw[hw2]
 have hS2:=HS.out.1.ext Ehw2
 have HX:=Lh (HS.out.2.ext Ehw2)
 clear hw2 c0 c1 cm hbl HS
 have c1:=hS2.c1;have f1:=hS2.f 1
 have HP:=hS2.put (i+1) (by omega)
 obtain⟨w3,hw3⟩:∃w,w2.setCell ⟨g,1,none⟩ (.int .i64 ((i:Int)+1))=w:=⟨_,rfl⟩
 have ei:(((i+1:Nat)):Int)=(i:Int)+1:=by omega
 rw[ei,hw3]at HP
 have HS:Hid (w3.heap[g]? =some (.cells #[.slice (some ⟨bb,off,none⟩) s.length bc,.int .i64 (i+1+0:Nat),ov] 116 (0,0))∧Exc g W w3∧w3.ownsRow W.heap.size 5 1 (.slice none 0 0) 0 (rowB (v.take 0))):=Lh ⟨HP.1.blk,HX.out.trans HP.2,World.ownsRow_nil _ _ _ _⟩
 clear ei HP HX hS2 Ehw2
 rcases hqo with rfl | rfl
 all_goals
  go_wp2_with fail
  clear hw3 c1 f1
  go_loopw [4,5] (fun u4 _ wr=>∃(k:Nat) (dv:Value),dv=u4∧k≤v.length∧Hid (wr.heap[g]? =some (.cells #[.slice (some ⟨bb,off,none⟩) s.length bc,.int .i64 (i+1+k:Nat),ov] 116 (0,0))∧Exc g W wr∧wr.ownsRow W.heap.size 5 1 dv k (rowB (v.take k)))) (fun _ _ wr=>atQ s.length g wr)
  case atStart=>exact⟨0,_,rfl,Nat.zero_le _,HS⟩
  case round=>
   clear HS
   obtain⟨k,dv,rfl,hk,HI⟩:=hrel
   obtain⟨m,hm⟩:∃m,i+1+k=m:=⟨_,rfl⟩
   have hms:m< s.length:=by omega
   rw[hm]at HI
   have hSr:=HH.out.exc HI.out.2.1 HI.out.1 (by omega)
   have HN:=Lh (need_any hSr hms)
   have HMZ:=Lh (show atQ s.length g wr=s.length - m by simp only[atQ,hSr.c1];rfl)
   clear hSr
   go_wp2_with fail
   refine HN.out.mono ?_
   rintro e w4 ⟨rfl,hE4⟩
   clear HN
   have hS4:=(HH.out.exc HI.out.2.1 HI.out.1 (by omega)).ext hE4
   have c0:=hS4.c0;have c1:=hS4.c1
   obtain⟨hbl,cm⟩:=hS4.byte hms
   have HJ:=Lh (And.intro hS4.blk (And.intro (HI.out.2.1.ext hE4) (rows_ext HI.out.2.2 hE4)))
   clear hS4 HI hE4
   by_cases hkl:k< v.length
   ·
    have ex:s[m]=v[k]:=by subst hm;exact H1.out k hkl
    obtain⟨x1,x2,x3,x4,x5,x6⟩:=HV.out k hkl
    have hxl:v[k].toNat< 256:=UInt8.toNat_lt _
    have HT:=Lh (rowB_take hkl)
    rw[ex]at cm
    obtain⟨x,hx⟩:∃x:Nat,v[k].toNat=x:=⟨_,rfl⟩
    rw[hx]at cm x1 x2 x3 x4 x5 x6 HT hxl
    clear ex hx
    go_wp2_with fail
    go_quiet (fail)
    obtain⟨wz,hwz⟩:∃w,w4.drewN nq=w:=⟨_,rfl⟩
    have Ehwz:Ext w4 wz:=by rw[←hwz];exact(Ext.refl w4).drewN _
    rw[hwz]
    have hbz:wz.heap[g]? =some (.cells #[.slice (some ⟨bb,off,none⟩) s.length bc,.int .i64 (m:Nat),ov] 116 (0,0)):=(Below.block Ehwz g (blk_lt HJ.out.1)).trans HJ.out.1
    have hXz:=HJ.out.2.1.ext Ehwz
    have hrz:=rows_ext HJ.out.2.2 Ehwz
    have hE:Ext wz (wz.alloc (.cells #[.int .u8 (x:Int)] 5)):=(Ext.refl _).alloc _
    have hws:W.heap.size≤wz.heap.size:=hXz.1
    have hne:some g≠dv.ownBlock:=fun e=>by have:=(hrz.lt g e.symm).1;omega
    have HZ:=Lh (And.intro hbz (And.intro hXz (And.intro hrz hne)))
    have hx0:(0:Int)≤(x:Int):=by omega
    have hx1:(x:Int)≤255:=by omega
    clear hwz c0 c1 cm hbl HJ hbz hXz hrz Ehwz hne
    go_wp2_with (at_builtin;refine wpList_append_own_at _ rfl (.tmp 49) (.tmp 51) _ rfl W.heap.size 5 i0 (.int .u8 0) 1 1 Tryz.underlying44 hi0' hz0 hz1 hz2 rfl (by decide) dv k (rowB (v.take k)) rfl (rows_ext HZ.out.2.2.1 hE) ⟨wz.heap.size,0,none⟩ 1 1 [.int .u8 (x:Int)] rfl rfl (by intro j u hj;match j,hj with | 0,hj=>simp at hj;subst hj;simp[go_sem]) (by intro u hu;simp at hu;rcases hu with rfl;rfl) (by unfold maxLen;omega) (by omega) (by simp;omega) ?_;intro v2 w5 hown5 hgrow5 _ hat5;have hb5:=blk_app HZ.out.1 hgrow5 HZ.out.2.2.2;have c1:=blk_cell hb5 (k:=1) rfl;have f1:=blk_free (k:=1) hb5)
    have hX5:Exc g W w5:=HZ.out.2.1.app hgrow5 fun j hj=>(HZ.out.2.2.1.lt j hj).1
    have HR:=Lh (And.intro hb5 (And.intro hX5 hown5))
    have HE:=Lh (show atQ s.length g (w5.setCell ⟨g,1,none⟩ (.int .i64 ((m:Int)+1)))=s.length - (m+1) by
     have hc:=blk_cell (blk_setc (k:=1) (u:= .int .i64 ((m:Int)+1)) hb5) (k:=1) rfl
     simp only[atQ,hc]
     show s.length - ((m:Int)+1).toNat=_
     omega)
    go_roundw
    case rel=>
     refine⟨k+1,v2,rfl,by omega,Lh ⟨?_,HR.out.2.1.set rfl _,?_⟩⟩
     ·
      have h:=blk_setc (k:=1) (u:= .int .i64 ((m:Int)+1)) HR.out.1
      rw[show i+1+(k+1)=m+1 by omega]
      exact h
     ·
      rw[HT.out]
      exact rows_set HR.out.2.2 (p:=⟨g,1,none⟩) (fun e=>by have:=(HR.out.2.2.lt g e.symm).1;omega) _
    case measure=>rw[HMZ.out,HE.out];omega
   ·
    obtain rfl:k=v.length:=by omega
    have ex:=H2.out
    simp only[hm]at ex
    rw[ex]at cm
    clear ex
    go_wp2_with fail
    go_quiet (fail)
    obtain⟨wz,hwz⟩:∃w,w4.drewN nq=w:=⟨_,rfl⟩
    have Ehwz:Ext w4 wz:=by rw[←hwz];exact(Ext.refl w4).drewN _
    rw[hwz]
    have hbz:wz.heap[g]? =some (.cells #[.slice (some ⟨bb,off,none⟩) s.length bc,.int .i64 (m:Nat),ov] 116 (0,0)):=(Below.block Ehwz g (blk_lt HJ.out.1)).trans HJ.out.1
    have hXz:=HJ.out.2.1.ext Ehwz
    have hrz:=rows_ext HJ.out.2.2 Ehwz
    have c1':=blk_cell hbz (k:=1) rfl
    have f1:=blk_free (k:=1) hbz
    obtain⟨w6,hw6⟩:∃w,wz.setCell ⟨g,1,none⟩ (.int .i64 ((m:Int)+1))=w:=⟨_,rfl⟩
    have hb6:w6.heap[g]? =some (.cells #[.slice (some ⟨bb,off,none⟩) s.length bc,.int .i64 (m+1:Nat),ov] 116 (0,0)):=by rw[←hw6];exact blk_setc (k:=1) (u:= .int .i64 ((m:Int)+1)) hbz
    have hX6:Exc g W w6:=by rw[←hw6];exact hXz.set rfl _
    have hr6:w6.ownsRow W.heap.size 5 1 dv v.length (rowB v):=by
     rw[←hw6,←List.take_length (l:=v)]
     rw[List.take_length]
     exact rows_set (by simpa using hrz) (p:=⟨g,1,none⟩) (fun e=>by have:=(hrz.lt g e.symm).1;omega) _
    have hcv:=own_conv hr6
    have HZ:=Lh (And.intro (HH.out.exc hX6 hb6 (by omega)) hX6)
    clear hwz c0 c1 cm hbl HJ hbz hXz hrz Ehwz hb6 hX6 hr6
    go_wp2_with fail
    go_ret
    exact⟨rfl,by rw[show i+v.length+2=m+1 by omega];exact HZ.out.1,HZ.out.2⟩
end
def st5t (W:World) (b:Nat) (a0 a1 a2 a3 a4:Value):World:=((((W.setCell ⟨b,0,none⟩ a0).setCell ⟨b,1,none⟩ a1).setCell ⟨b,2,none⟩ a2).setCell ⟨b,3,none⟩ a3).setCell ⟨b,4,none⟩ a4
theorem st5t_blk {W:World} {b:Nat} {v0 v1 v2 v3 v4:Value} {T:TypeId} {fz:Nat×Nat} (h:W.heap[b]? =some (.cells #[v0,v1,v2,v3,v4] T fz)) (a0 a1 a2 a3 a4:Value):(st5t W b a0 a1 a2 a3 a4).heap[b]? =some (.cells #[a0,a1,a2,a3,a4] T fz):=
 blk_setc (blk_setc (blk_setc (blk_setc (blk_setc h))))
theorem load_tok {W:World} {b:Nat} {a0 a1 a2 a3 a4:Value} (h:W.heap[b]? =some (.cells #[a0,a1,a2,a3,a4] 74 (0,0))):(loadVar 74 ⟨b,0,none⟩).run Tryz.prog W= .ok (.agg #[a0,a1,a2,a3,a4]) W:=by
 have c0:=blk_cell h (k:=0) rfl;have c1:=blk_cell h (k:=1) rfl;have c2:=blk_cell h (k:=2) rfl;have c3:=blk_cell h (k:=3) rfl;have c4:=blk_cell h (k:=4) rfl
 go_simp
theorem Exc.new {g:Nat} {a w:World} (h:Exc g a w) {b:Nat} (hb:a.heap.size≤b) (k:Nat) (u:Value):Exc g a (w.setCell ⟨b,k,none⟩ u):=
 ⟨by simpa using h.1,fun x h1 h2=>by rw[Below.heap_setCell _ _ _ _ (by simp only;omega)];exact h.2 x h1 h2,h.3⟩
structure TB (g r q:Nat) (T:TypeId) (W w:World) (j:Nat) (bv ov:Value) (z t:Array Value):Prop where
 b:w.heap[g]? =some (.cells #[bv,.int .i64 j,ov] 116 (0,0))
 x:Exc g W w
 r2:w.heap[r]? =some (.cells z T (0,0))
 r3:w.heap[q]? =some (.cells t T (0,0))
 hr:W.heap.size≤r
 hq:r< q
 hg:g< r
section
variable {g r q:Nat} {T:TypeId} {W W' w w':World} {s:Bytes} {i j:Nat} {bv ov:Value} {z t:Array Value}
theorem tb_begin (h:SB g W s i bv ov) (t:Array Value):TB g W.heap.size (W.heap.size+1) 74 W ((W.alloc (.cells #[.int .i64 0,.int .i64 0,.string ⟨#[]⟩,.string ⟨#[]⟩,.slice none 0 0] 74)).alloc (.cells t 74)) i bv ov #[.int .i64 0,.int .i64 0,.string ⟨#[]⟩,.string ⟨#[]⟩,.slice none 0 0] t:=by
 have hE:Ext W ((W.alloc (.cells #[.int .i64 0,.int .i64 0,.string ⟨#[]⟩,.string ⟨#[]⟩,.slice none 0 0] 74)).alloc (.cells t 74)):=((Ext.refl W).alloc _).alloc _
 refine⟨(Below.block hE g h.lt).trans h.blk,Exc.of g hE,?_,?_,Nat.le_refl _,Nat.lt_succ_self _,h.lt⟩
 ·
  exact(Below.block ((Ext.refl (W.alloc (.cells #[.int .i64 0,.int .i64 0,.string ⟨#[]⟩,.string ⟨#[]⟩,.slice none 0 0] 74))).alloc (.cells t 74)) W.heap.size (by simp)).trans (Array.getElem?_push_size ..)
 ·
  have:(W.alloc (.cells #[.int .i64 0,.int .i64 0,.string ⟨#[]⟩,.string ⟨#[]⟩,.slice none 0 0] 74)).heap.size=W.heap.size+1:=by simp
  rw[←this]
  exact Array.getElem?_push_size ..
theorem tb_begin2 (h:SB g W s i bv ov) {j:Nat} (hj:j≤s.length) (t:Array Value):TB g W.heap.size (W.heap.size+1) 74 W (((W.setCell ⟨g,1,none⟩ (.int .i64 j)).alloc (.cells #[.int .i64 0,.int .i64 0,.string ⟨#[]⟩,.string ⟨#[]⟩,.slice none 0 0] 74)).alloc (.cells t 74)) j bv ov #[.int .i64 0,.int .i64 0,.string ⟨#[]⟩,.string ⟨#[]⟩,.slice none 0 0] t:=by
 obtain⟨h1,h2⟩:=h.put j hj
 have h3:=tb_begin h1 t
 have e:(W.setCell ⟨g,1,none⟩ (.int .i64 j)).heap.size=W.heap.size:=by simp
 rw[e]at h3
 exact⟨h3.b,h2.trans h3.x,h3.r2,h3.r3,Nat.le_refl _,h3.hq,h3.hg⟩
theorem TB.call (h:TB g r q T W w j bv ov z t) {j':Nat} (hb:w'.heap[g]? =some (.cells #[bv,.int .i64 j',ov] 116 (0,0))) (hX:Exc g w w'):TB g r q T W w' j' bv ov z t:=
 ⟨hb,h.x.trans hX,(hX.2 r (by have:=h.hg;omega) (blk_lt h.r2)).trans h.r2,(hX.2 q (by have:=h.hg;have:=h.hq;omega) (blk_lt h.r3)).trans h.r3,h.hr,h.hq,h.hg⟩
theorem TB.ext (h:TB g r q T W w j bv ov z t) (hE:Ext w w'):TB g r q T W w' j bv ov z t:=h.call ((Below.block hE g (blk_lt h.b)).trans h.b) (Exc.of g hE)
theorem TB.at (h:TB g r q T W w j bv ov z t) (j':Nat):TB g r q T W (w.setCell ⟨g,1,none⟩ (.int .i64 j')) j' bv ov z t:=h.call (blk_setc h.b) ((Exc.refl g w).set rfl _)
theorem TB.set (h:TB g r q T W w j bv ov z t) (k:Nat) (u:Value):TB g r q T W (w.setCell ⟨q,k,none⟩ u) j bv ov z (t.setIfInBounds k u):=
 ⟨(Below.heap_setCell w _ _ _ (by have:=h.hg;have:=h.hq;simp only;omega)).trans h.b,h.x.new (by have:=h.hr;have:=h.hq;omega) k u,(Below.heap_setCell w _ _ _ (by have:=h.hq;simp only;omega)).trans h.r2,blk_setc h.r3,h.hr,h.hq,h.hg⟩
theorem TB.app (h:TB g r q T W w j bv ov z t) {row:Option Nat} (hg:World.grownBy w w' row) (hn:∀k,row=some k→q< k):TB g r q T W w' j bv ov z t:=
 ⟨(hg.block g (blk_lt h.b) fun e=>by have:=hn g e.symm;have:=h.hg;have:=h.hq;omega).trans h.b,h.x.grown hg fun k hk=>by have:=hn k hk;have:=h.hr;have:=h.hq;omega,(hg.block r (blk_lt h.r2) fun e=>by have:=hn r e.symm;have:=h.hq;omega).trans h.r2,(hg.block q (blk_lt h.r3) fun e=>by have:=hn q e.symm;omega).trans h.r3,h.hr,h.hq,h.hg⟩
theorem TB.sb (h:TB g r q T W w j bv ov z t) (h0:SB g W s i bv ov) (hj:j≤s.length):SB g w s j bv ov:=h0.exc h.x h.b hj
theorem TB.st (h:TB g r q T W w j bv ov z t) (a0 a1 a2 a3 a4:Value):Exc g W (st5t w r a0 a1 a2 a3 a4)∧(st5t w r a0 a1 a2 a3 a4).heap[g]? =some (.cells #[bv,.int .i64 j,ov] 116 (0,0))∧∀b,b≠r→(st5t w r a0 a1 a2 a3 a4).heap[b]? =w.heap[b]? :=by
 have hk:∀b,b≠r→(st5t w r a0 a1 a2 a3 a4).heap[b]? =w.heap[b]? :=fun b hb=>by
  unfold st5t
  rw[Below.heap_setCell _ _ _ _ (by simpa using hb),Below.heap_setCell _ _ _ _ (by simpa using hb),Below.heap_setCell _ _ _ _ (by simpa using hb),Below.heap_setCell _ _ _ _ (by simpa using hb),Below.heap_setCell _ _ _ _ (by simpa using hb)]
 refine⟨?_,(hk g (by have:=h.hg;omega)).trans h.b,hk⟩
 unfold st5t
 exact((((h.x.new h.hr 0 a0).new h.hr 1 a1).new h.hr 2 a2).new h.hr 3 a3).new h.hr 4 a4
def plC (c:UInt8):Bool:=c !=60 && c !=38 && c !=13 && c !=93
theorem xchars_any (h:SB g W s i bv ov) (v rr:Bytes) (ht:s.drop i=v++60::rr) (hv:∀c∈v,plC c=true):Calls Tryz.prog 146 #[.pointer (some ⟨g,0,none⟩)] W fun e w'=>e= .returned (.agg #[.int .i64 4,.int .i64 i,.string ⟨#[]⟩,.string (bs v),.slice none 0 0])∧SB g w' s (i+v.length) bv ov∧Exc g W w':=by
 obtain⟨i0,hi0',hz0,hz1,hz2⟩:=info_parts infoU8
 obtain⟨hlen,hgt⟩:=drop_at (t:=v++ [60]) (r:=rr) (by simpa using ht) h.hi
 simp only[List.length_append,List.length_cons,List.length_nil]at hlen
 have hvl:i+v.length< s.length:=by omega
 clear hlen
 have hv1:∀(k:Nat) (hk:k< v.length),s[i+k]'(by omega)=v[k]:=fun k hk=>by
  have:=hgt k (by simp;omega) (by omega)
  rw[List.getElem_append_left hk]at this
  exact this
 have hq1:(((s[i+v.length]'(by omega)).toNat:Nat):Int)=60:=by
  have:=hgt v.length (by simp) (by omega)
  rw[List.getElem_append_right (Nat.le_refl _)]at this
  simp only[Nat.sub_self,List.getElem_cons_zero]at this
  rw[this];rfl
 have HV:=Lh (show∀(k:Nat) (hk:k< v.length),((v[k].toNat:Int)==60)=false∧((v[k].toNat:Int)==38)=false∧((v[k].toNat:Int)==13)=false∧((v[k].toNat:Int)==93)=false from fun k hk=>by
  have h:=hv _ (List.getElem_mem hk)
  simp only[plC,Bool.and_eq_true]at h
  obtain⟨⟨⟨h2,h3⟩,h4⟩,h5⟩:=h
  exact⟨u8_ne (by decide) h2,u8_ne (by decide) h3,u8_ne (by decide) h4,u8_ne (by decide) h5⟩)
 obtain⟨bb,off,bc,rfl,hcap,hbc⟩:=h.slice (by omega)
 have HB1:=Lh (tb_begin h #[.int .i64 4,.int .i64 (i:Nat),.string ⟨#[]⟩,.string ⟨#[]⟩,.slice none 0 0])
 have c1:(W.alloc (.cells #[.int .i64 0,.int .i64 0,.string ⟨#[]⟩,.string ⟨#[]⟩,.slice none 0 0] 74)).cell? ⟨g,1,none⟩=some (.int .i64 (i:Nat)):=((Ext.refl W).alloc _).keep h.lt h.c1
 have HH:=Lh h
 have hl:=h.hl
 have hlt:=h.lt
 have H1:=Lh hv1
 have H2:=Lh hq1
 clear ht hv hgt hv1 hq1 h
 go_enter Tryz.func146,Tryz.ntmps146
 go_wp2_with fail
 obtain⟨r,hr⟩:∃r,W.heap.size=r:=⟨_,rfl⟩
 obtain⟨w1,hw1⟩:∃X,(W.alloc (.cells #[.int .i64 0,.int .i64 0,.string ⟨#[]⟩,.string ⟨#[]⟩,.slice none 0 0] 74)).alloc (.cells #[.int .i64 4,.int .i64 (i:Int),.string ⟨#[]⟩,.string ⟨#[]⟩,.slice none 0 0] 74)=X:=⟨_,rfl⟩
 have HB0:=HB1.out
 rw[hr,hw1]at HB0
 rw[hr,hw1]
 clear hw1 c1 HB1
 have hws:W.heap.size≤w1.heap.size:=HB0.x.1
 have hb0:=Lh HB0
 have HS:Hid (TB g r (r+1) 74 W w1 (i+0) (.slice (some ⟨bb,off,none⟩) s.length bc) ov #[.int .i64 0,.int .i64 0,.string ⟨#[]⟩,.string ⟨#[]⟩,.slice none 0 0] #[.int .i64 4,.int .i64 (i:Nat),.string ⟨#[]⟩,.string ⟨#[]⟩,.slice none 0 0]∧w1.ownsRow w1.heap.size 5 1 (.slice none 0 0) 0 (rowB (v.take 0))):=Lh ⟨HB0,World.ownsRow_nil _ _ _ _⟩
 have hr1:r+1< w1.heap.size:=blk_lt HB0.r3
 clear HB0
 go_loopw [4,5] (fun u4 _ wr=>∃(k:Nat) (dv:Value),dv=u4∧k≤v.length∧w1.heap.size≤wr.heap.size∧Hid (TB g r (r+1) 74 W wr (i+k) (.slice (some ⟨bb,off,none⟩) s.length bc) ov #[.int .i64 0,.int .i64 0,.string ⟨#[]⟩,.string ⟨#[]⟩,.slice none 0 0] #[.int .i64 4,.int .i64 (i:Nat),.string ⟨#[]⟩,.string ⟨#[]⟩,.slice none 0 0]∧wr.ownsRow w1.heap.size 5 1 dv k (rowB (v.take k)))) (fun _ _ wr=>atQ s.length g wr)
 case atStart=>exact⟨0,_,rfl,Nat.zero_le _,Nat.le_refl _,HS⟩
 case round=>
  clear HS
  obtain⟨k,dv,rfl,hk,hwsr,HI⟩:=hrel
  obtain⟨m,hm⟩:∃m,i+k=m:=⟨_,rfl⟩
  have hms:m< s.length:=by omega
  rw[hm]at HI
  have hSr:=HI.out.1.sb HH.out (by omega)
  have c0:=hSr.c0;have c1:=hSr.c1
  obtain⟨hbl,cm⟩:=hSr.byte hms
  have HMZ:=Lh (show atQ s.length g wr=s.length - m by simp only[atQ,hSr.c1];rfl)
  have hlI:decide ((m:Int)< (s.length:Int))=true:=decide_eq_true (by omega)
  clear hSr
  by_cases hkl:k< v.length
  ·
   have ex:s[m]=v[k]:=by subst hm;exact H1.out k hkl
   obtain⟨x2,x3,x4,x5⟩:=HV.out k hkl
   have hxl:v[k].toNat< 256:=UInt8.toNat_lt _
   have HT:=Lh (rowB_take hkl)
   rw[ex]at cm
   obtain⟨x,hx⟩:∃x:Nat,v[k].toNat=x:=⟨_,rfl⟩
   rw[hx]at cm x2 x3 x4 x5 HT hxl
   have x2':((x:Int) !=60)=true:=by unfold bne;rw[x2];rfl
   have HXX:=Lh hx
   clear ex hx
   go_wp2_with fail
   go_quiet (fail)
   go_wp2_with fail
   obtain⟨wy,hwy⟩:∃w,wr.drewN nq=w:=⟨_,rfl⟩
   have Ehwy:Ext wr wy:=by rw[←hwy];exact(Ext.refl wr).drewN _
   rw[hwy]
   have hTy:=HI.out.1.ext Ehwy
   have hSy:=hTy.sb HH.out (by omega)
   have hry:=rows_ext HI.out.2 Ehwy
   have hsy:w1.heap.size≤wy.heap.size:=Nat.le_trans hwsr Ehwy.size
   have HY:=Lh (And.intro hTy hry)
   obtain⟨hbl',cm'⟩:=hSy.byte hms
   have ex':s[m]=v[k]:=by subst hm;exact H1.out k hkl
   rw[ex',HXX.out]at cm'
   have c0':=hSy.c0;have c1':=hSy.c1
   clear hwy c0 c1 cm hbl hTy hSy hry Ehwy HI ex' hlI
   go_quiet (fail)
   obtain⟨wz,hwz⟩:∃w,wy.drewN nq=w:=⟨_,rfl⟩
   have Ehwz:Ext wy wz:=by rw[←hwz];exact(Ext.refl wy).drewN _
   rw[hwz]
   have hTz:=HY.out.1.ext Ehwz
   have hrz:=rows_ext HY.out.2 Ehwz
   have hE:Ext wz (wz.alloc (.cells #[.int .u8 (x:Int)] 5)):=(Ext.refl _).alloc _
   have hsz:w1.heap.size≤wz.heap.size:=Nat.le_trans hsy Ehwz.size
   have hne:∀b,b< w1.heap.size→some b≠dv.ownBlock:=fun b hb e=>by have:=(hrz.lt b e.symm).1;omega
   have HZ:=Lh (And.intro hTz (And.intro hrz hne))
   have hx0:(0:Int)≤(x:Int):=by omega
   have hx1:(x:Int)≤255:=by omega
   clear hwz c0' c1' cm' hbl' HY hTz hrz Ehwz hne
   go_wp2_with (at_builtin;refine wpList_append_own_at _ rfl (.tmp 67) (.tmp 69) _ rfl w1.heap.size 5 i0 (.int .u8 0) 1 1 Tryz.underlying44 hi0' hz0 hz1 hz2 rfl (by decide) dv k (rowB (v.take k)) rfl (rows_ext HZ.out.2.1 hE) ⟨wz.heap.size,0,none⟩ 1 1 [.int .u8 (x:Int)] rfl rfl (by intro j u hj;match j,hj with | 0,hj=>simp at hj;subst hj;simp[go_sem]) (by intro u hu;simp at hu;rcases hu with rfl;rfl) (by unfold maxLen;omega) (by omega) (by simp;omega) ?_;intro v2 w5 hown5 hgrow5 _ hat5;have hb5:=blk_app HZ.out.1.b hgrow5 (HZ.out.2.2 g (by omega));have c1:=blk_cell hb5 (k:=1) rfl;have f1:=blk_free (k:=1) hb5)
   have hT5:TB g r (r+1) 74 W w5 m (.slice (some ⟨bb,off,none⟩) s.length bc) ov #[.int .i64 0,.int .i64 0,.string ⟨#[]⟩,.string ⟨#[]⟩,.slice none 0 0] #[.int .i64 4,.int .i64 (i:Nat),.string ⟨#[]⟩,.string ⟨#[]⟩,.slice none 0 0]:=
    ⟨hb5,HZ.out.1.x.app hgrow5 fun j hj=>by have:=(HZ.out.2.1.lt j hj).1;omega,blk_app HZ.out.1.r2 hgrow5 (HZ.out.2.2 r (by omega)),blk_app HZ.out.1.r3 hgrow5 (HZ.out.2.2 (r+1) (by omega)),HZ.out.1.hr,HZ.out.1.hq,HZ.out.1.hg⟩
   have hs5:w1.heap.size≤w5.heap.size:=Nat.le_trans hsz (Nat.le_trans hE.size hgrow5.size)
   have HR:=Lh (And.intro hT5 hown5)
   have HE:=Lh (show atQ s.length g (w5.setCell ⟨g,1,none⟩ (.int .i64 ((m:Int)+1)))=s.length - (m+1) by
     have hc:=blk_cell (blk_setc (k:=1) (u:= .int .i64 ((m:Int)+1)) hb5) (k:=1) rfl
     simp only[atQ,hc]
     show s.length - ((m:Int)+1).toNat=_
     omega)
   go_roundw
   case rel=>
    refine⟨k+1,v2,rfl,by omega,by simpa using hs5,Lh ⟨?_,?_⟩⟩
    ·
     have h:=HR.out.1.at (m+1)
     rw[show i+(k+1)=m+1 by omega]
     exact h
    ·
     rw[HT.out]
     exact rows_set HR.out.2 (p:=⟨g,1,none⟩) (fun e=>by have:=(HR.out.2.lt g e.symm).1;omega) _
   case measure=>rw[HMZ.out,HE.out];omega
  ·
   obtain rfl:k=v.length:=by omega
   have ex:=H2.out
   simp only[hm]at ex
   rw[ex]at cm
   clear ex
   go_wp2_with fail
   go_quiet (fail)
   obtain⟨wz,hwz⟩:∃w,wr.drewN nq=w:=⟨_,rfl⟩
   have Ehwz:Ext wr wz:=by rw[←hwz];exact(Ext.refl wr).drewN _
   rw[hwz]
   have hTz:=HI.out.1.ext Ehwz
   have hrz:=rows_ext HI.out.2 Ehwz
   rw[List.take_length]at hrz
   have hcv:=own_conv hrz
   have hTs:=hTz.set 3 (.string (bs v))
   have e0:=blk_cell hTz.r3 (k:=0) rfl;have e1:=blk_cell hTz.r3 (k:=1) rfl;have e2:=blk_cell hTz.r3 (k:=2) rfl;have e3:=blk_cell hTz.r3 (k:=3) rfl;have e4:=blk_cell hTz.r3 (k:=4) rfl
   have p0:=blk_free (k:=0) hTz.r3;have p1:=blk_free (k:=1) hTz.r3;have p2:=blk_free (k:=2) hTz.r3;have p3:=blk_free (k:=3) hTz.r3;have p4:=blk_free (k:=4) hTz.r3
   obtain⟨w8,hw8⟩:∃X,wz.setCell ⟨r+1,3,none⟩ (.string (bs v))=X:=⟨_,rfl⟩
   rw[hw8]at hTs
   simp only[List.setIfInBounds_toArray,List.set_cons_zero,List.set_cons_succ]at hTs
   have c0:=blk_cell hTs.r3 (k:=0) rfl;have c1:=blk_cell hTs.r3 (k:=1) rfl;have c2:=blk_cell hTs.r3 (k:=2) rfl;have c3:=blk_cell hTs.r3 (k:=3) rfl;have c4:=blk_cell hTs.r3 (k:=4) rfl
   have d0:=blk_cell hTs.r2 (k:=0) rfl;have d1:=blk_cell hTs.r2 (k:=1) rfl;have d2:=blk_cell hTs.r2 (k:=2) rfl;have d3:=blk_cell hTs.r2 (k:=3) rfl;have d4:=blk_cell hTs.r2 (k:=4) rfl
   have f0:=blk_free (k:=0) hTs.r2;have f1:=blk_free (k:=1) hTs.r2;have f2:=blk_free (k:=2) hTs.r2;have f3:=blk_free (k:=3) hTs.r2;have f4:=blk_free (k:=4) hTs.r2
   obtain⟨w9,hw9⟩:∃X,((((w8.setCell ⟨r,0,none⟩ (.int .i64 4)).setCell ⟨r,1,none⟩ (.int .i64 (i:Nat))).setCell ⟨r,2,none⟩ (.string ⟨#[]⟩)).setCell ⟨r,3,none⟩ (.string (bs v))).setCell ⟨r,4,none⟩ (.slice none 0 0)=X:=⟨_,rfl⟩
   have hb9:=st5t_blk hTs.r2 (.int .i64 4) (.int .i64 (i:Nat)) (.string ⟨#[]⟩) (.string (bs v)) (.slice none 0 0)
   have hx9:=hTs.st (.int .i64 4) (.int .i64 (i:Nat)) (.string ⟨#[]⟩) (.string (bs v)) (.slice none 0 0)
   unfold st5t at hb9 hx9
   rw[hw9]at hb9 hx9
   have HZ9:=Lh (And.intro hb9 hx9)
   clear hb9 hx9
   have HTS:=Lh hTs
   clear hwz hTz hrz Ehwz HI hTs cm hbl hlI
   go_wp2_with fail
   refine bodyPost_ret (res_one rfl _ _ _ ⟨r,0,none⟩ ?_ (load_tok HZ9.out.1)) rfl ?_
   ·
    first | rfl | simp
   clear hw9
   have hX9:=HZ9.out.2
   exact⟨rfl,by rw[hm];exact HH.out.exc hX9.1 hX9.2.1 (by omega),hX9.1⟩
end
theorem nameS_lt {s:Bytes} {p:Nat} (h:0< nameS (s.drop p)):p+nameS (s.drop p)≤s.length∧p< s.length:=by
 have h1:=nmL_le (s.drop p).length true (s.drop p)
 unfold nameS at*
 rw[List.length_drop]at*
 omega
theorem drop_lt {s:Bytes} {p:Nat} {c:UInt8} {r:Bytes} (h:s.drop p=c::r):p< s.length:=by
 have:=congrArg List.length h
 rw[List.length_drop,List.length_cons]at this
 omega
def EndR (s:Bytes) (i:Nat) (nm:Bytes) (e:Nat):Prop:=∃(n b:Nat) (rr:Bytes),nameS (s.drop (i+2))=n∧0< n∧blS (s.drop (i+2+n))=b∧s.drop (i+2+n+b)=62::rr∧nm=(s.drop (i+2)).take n∧e=i+2+n+b+1
def AttR (s:Bytes) (p:Nat) (a:Attr) (e:Nat):Prop:=∃(n b1 b2:Nat) (q:UInt8) (r1 rr:Bytes),nameS (s.drop p)=n∧0< n∧a.n=(s.drop p).take n∧blS (s.drop (p+n))=b1∧s.drop (p+n+b1)=61::r1∧blS (s.drop (p+n+b1+1))=b2∧(q=34∨q=39)∧s.drop (p+n+b1+1+b2)=q::(a.v++q::rr)∧(∀c∈a.v,plV q c=true)∧e=p+n+b1+1+b2+a.v.length+2
section
variable {g r q:Nat} {T:TypeId} {W W' w w':World} {s:Bytes} {i j:Nat} {bv ov:Value} {z t:Array Value}
theorem end_any (h:SB g W s i bv ov) (nm:Bytes) (e:Nat) (hR:EndR s i nm e):Calls Tryz.prog 149 #[.pointer (some ⟨g,0,none⟩)] W fun ed w'=>ed= .returned (.agg #[.int .i64 3,.int .i64 i,.string (bs nm),.string ⟨#[]⟩,.slice none 0 0])∧SB g w' s e bv ov∧Exc g W w':=by
 obtain⟨n,b,rr,hn,hn0,hb,hd,rfl,rfl⟩:=hR
 obtain⟨hnl,hil⟩:=nameS_lt (s:=s) (p:=i+2) (by omega)
 have hpl:=drop_lt hd
 have HN:=Lh (And.intro hn (And.intro hn0 (And.intro hb hd)))
 have HB1:=Lh (tb_begin2 h (j:=i+2) (by omega) #[.int .i64 3,.int .i64 (i:Nat),.string ⟨#[]⟩,.string ⟨#[]⟩,.slice none 0 0])
 have c1:(W.alloc (.cells #[.int .i64 0,.int .i64 0,.string ⟨#[]⟩,.string ⟨#[]⟩,.slice none 0 0] 74)).cell? ⟨g,1,none⟩=some (.int .i64 (i:Nat)):=((Ext.refl W).alloc _).keep h.lt h.c1
 have k1:=blk_cell (tb_begin h #[.int .i64 3,.int .i64 (i:Int),.string ⟨#[]⟩,.string ⟨#[]⟩,.slice none 0 0]).b (k:=1) rfl
 have j1:=blk_free (k:=1) (tb_begin h #[.int .i64 3,.int .i64 (i:Int),.string ⟨#[]⟩,.string ⟨#[]⟩,.slice none 0 0]).b
 have HH:=Lh h
 have hl:=h.hl
 have hlt:=h.lt
 obtain⟨nm,hnm⟩:∃x,(s.drop (i+2)).take n=x:=⟨_,rfl⟩
 rw[hnm]
 have HNM:=Lh hnm
 clear h hn hn0 hb hd hnm
 go_enter Tryz.func149,Tryz.ntmps149
 go_wp2_with fail
 obtain⟨r,hr⟩:∃r,W.heap.size=r:=⟨_,rfl⟩
 obtain⟨w1,hw1⟩:∃X,((W.setCell ⟨g,1,none⟩ (.int .i64 ((i:Int)+2))).alloc (.cells #[.int .i64 0,.int .i64 0,.string ⟨#[]⟩,.string ⟨#[]⟩,.slice none 0 0] 74)).alloc (.cells #[.int .i64 3,.int .i64 (i:Int),.string ⟨#[]⟩,.string ⟨#[]⟩,.slice none 0 0] 74)=X:=⟨_,rfl⟩
 have HB0:=HB1.out
 rw[hr,show(((i+2:Nat)):Int)=(i:Int)+2 from rfl,hw1]at HB0
 rw[hr,hw1]
 clear hw1 c1 k1 j1 HB1
 have HB2:=HB0
 clear HB0
 refine(xname_any (HB2.sb HH.out (by omega)) hil (by rw[HN.out.1];exact HN.out.2.1)).mono ?_
 rintro e w3 ⟨rfl,hS3,hX3⟩
 rw[HN.out.1,HNM.out]at*
 have HB3:=HB2.call hS3.blk hX3
 obtain⟨w4,hw4⟩:∃X,w3.setCell ⟨r+1,2,none⟩ (.string (bs nm))=X:=⟨_,rfl⟩
 have HB4:=HB3.set 2 (.string (bs nm))
 rw[hw4]at HB4
 simp only[List.setIfInBounds_toArray,List.set_cons_zero,List.set_cons_succ]at HB4
 have c2:=blk_cell HB3.r3 (k:=2) rfl
 have f2:=blk_free (k:=2) HB3.r3
 have HB5:=Lh HB4
 clear hS3 hX3 HB2 HB3 HB4
 go_wp2_with fail
 clear c2 f2
 refine(blanks_any (HB5.out.sb HH.out (by omega)) (by omega)).mono ?_
 rintro e w5 ⟨rfl,hS5,hX5⟩
 rw[HN.out.2.2.1]at hS5
 have HB6:=HB5.out.call hS5.blk hX5
 go_wp2_with fail
 refine(eat_any (HB6.sb HH.out (by omega)) [62] rr HN.out.2.2.2 (by simp)).mono ?_
 rintro e w6 ⟨rfl,hS6,hX6⟩
 have hT:=HB6.call hS6.blk hX6
 clear hS5 hX5 HB6 hS6 hX6 HB5 hw4
 have c0:=blk_cell hT.r3 (k:=0) rfl;have c1:=blk_cell hT.r3 (k:=1) rfl;have c2:=blk_cell hT.r3 (k:=2) rfl;have c3:=blk_cell hT.r3 (k:=3) rfl;have c4:=blk_cell hT.r3 (k:=4) rfl
 have d0:=blk_cell hT.r2 (k:=0) rfl;have d1:=blk_cell hT.r2 (k:=1) rfl;have d2:=blk_cell hT.r2 (k:=2) rfl;have d3:=blk_cell hT.r2 (k:=3) rfl;have d4:=blk_cell hT.r2 (k:=4) rfl
 have f0:=blk_free (k:=0) hT.r2;have f1:=blk_free (k:=1) hT.r2;have f2:=blk_free (k:=2) hT.r2;have f3:=blk_free (k:=3) hT.r2;have f4:=blk_free (k:=4) hT.r2
 obtain⟨w9,hw9⟩:∃X,((((w6.setCell ⟨r,0,none⟩ (.int .i64 3)).setCell ⟨r,1,none⟩ (.int .i64 (i:Nat))).setCell ⟨r,2,none⟩ (.string (bs nm))).setCell ⟨r,3,none⟩ (.string ⟨#[]⟩)).setCell ⟨r,4,none⟩ (.slice none 0 0)=X:=⟨_,rfl⟩
 have hb9:=st5t_blk hT.r2 (.int .i64 3) (.int .i64 (i:Nat)) (.string (bs nm)) (.string ⟨#[]⟩) (.slice none 0 0)
 have hx9:=hT.st (.int .i64 3) (.int .i64 (i:Nat)) (.string (bs nm)) (.string ⟨#[]⟩) (.slice none 0 0)
 unfold st5t at hb9 hx9
 rw[hw9]at hb9 hx9
 have HZ9:=Lh (And.intro hb9 hx9)
 clear hb9 hx9
 clear hT
 go_wp2_with fail
 refine bodyPost_ret (res_one rfl _ _ _ ⟨r,0,none⟩ ?_ (load_tok HZ9.out.1)) rfl ?_
 ·
  first | rfl | simp
 clear hw9
 have hX9:=HZ9.out.2
 exact⟨rfl,HH.out.exc hX9.1 hX9.2.1 (by omega),hX9.1⟩
theorem load_att {W:World} {b:Nat} {a0 a1:Value} (h:W.heap[b]? =some (.cells #[a0,a1] 62 (0,0))):(loadVar 62 ⟨b,0,none⟩).run Tryz.prog W= .ok (.agg #[a0,a1]) W:=by
 have c0:=blk_cell h (k:=0) rfl;have c1:=blk_cell h (k:=1) rfl
 go_simp
theorem xattribute_any (h:SB g W s i bv ov) (a:Attr) (e:Nat) (hR:AttR s i a e) (A:List Attr) (p:Nat→Prop) (va:Value) (hA:Rep W p va (attrsD A)) (hp:∀b,p b→b≠g) (hne:∀x∈A,x.n≠a.n):
  Calls Tryz.prog 196 #[.pointer (some ⟨g,0,none⟩),va] W fun ed w'=>ed= .returned (.agg #[.string (bs a.n),.string (bs a.v)])∧SB g w' s e bv ov∧Exc g W w':=by
 obtain⟨n,b1,b2,qq,r1,rr,hn,hn0,han,hb1,hd1,hb2,hq,hd2,hv,rfl⟩:=hR
 obtain⟨hnl,hil⟩:=nameS_lt (s:=s) (p:=i) (by omega)
 have hpl1:=drop_lt hd1
 have hpl2:=drop_lt hd2
 obtain⟨aa,ac,rfl,hac,hac2⟩:=hA.count z_attr (by omega)
 have HN:=Lh (And.intro hn (And.intro hn0 (And.intro han (And.intro hb1 (And.intro hd1 (And.intro hb2 (And.intro hq (And.intro hd2 hv))))))))
 have HA:=Lh (And.intro hA (And.intro hp hne))
 have c1:(W.alloc (.cells #[.string ⟨#[]⟩,.string ⟨#[]⟩] 62)).cell? ⟨g,1,none⟩=some (.int .i64 (i:Nat)):=((Ext.refl W).alloc _).keep h.lt h.c1
 have HH:=Lh h
 have hl:=h.hl
 have hlt:=h.lt
 obtain⟨nm,hnm⟩:∃x,a.n=x:=⟨_,rfl⟩
 obtain⟨vv,hvv⟩:∃x,a.v=x:=⟨_,rfl⟩
 rw[hnm]at HN HA⊢
 rw[hvv]at HN⊢
 have hal:A.length≤9223372036854775807:=by omega
 clear h hA hp hne hn hn0 han hb1 hd1 hb2 hq hd2 hv hnm hvv
 go_enter Tryz.func196,Tryz.ntmps196
 go_wp2_with fail
 clear c1
 obtain⟨w1,hw1⟩:∃X,W.alloc (.cells #[.string ⟨#[]⟩,.string ⟨#[]⟩] 62)=X:=⟨_,rfl⟩
 obtain⟨r,hr⟩:∃r,W.heap.size=r:=⟨_,rfl⟩
 have hE1:Ext W w1:=by rw[←hw1];exact(Ext.refl W).alloc _
 have hb1:w1.heap[r]? =some (.cells #[.string ⟨#[]⟩,.string ⟨#[]⟩] 62 (0,0)):=by rw[←hw1,←hr];exact Array.getElem?_push_size ..
 rw[hw1,hr]
 have hSB1:=HH.out.ext hE1
 refine(xname_any hSB1 hil (by rw[HN.out.1];exact HN.out.2.1)).mono ?_
 rintro e w2 ⟨rfl,hS2,hX2⟩
 rw[HN.out.1,←HN.out.2.2.1]at*
 have hb2:=(hX2.2 r (by omega) (blk_lt hb1)).trans hb1
 obtain⟨w3,hw3⟩:∃X,w2.alloc (.cells #[.string (bs nm),.string ⟨#[]⟩] 62)=X:=⟨_,rfl⟩
 obtain⟨q,hq⟩:∃q,w2.heap.size=q:=⟨_,rfl⟩
 have hE3:Ext w2 w3:=by rw[←hw3];exact(Ext.refl w2).alloc _
 have hb3:w3.heap[q]? =some (.cells #[.string (bs nm),.string ⟨#[]⟩] 62 (0,0)):=by rw[←hw3,←hq];exact Array.getElem?_push_size ..
 have hrq:r< q:=by rw[←hq];exact blk_lt hb2
 have HB3:TB g r q 62 W w3 (i+n) bv ov #[.string ⟨#[]⟩,.string ⟨#[]⟩] #[.string (bs nm),.string ⟨#[]⟩]:=
  ⟨(Below.block hE3 g hS2.lt).trans hS2.blk,((Exc.of g hE1).trans hX2).ext hE3,(Below.block hE3 r (blk_lt hb2)).trans hb2,hb3,by omega,hrq,by omega⟩
 have HS:=Lh HB3
 have HW3:=Lh (And.intro hw3 hq)
 clear hw1 hE1 hb1 hSB1 hS2 hX2 hb2 hE3 hb3 HB3 hw3 hq
 go_wp2_with fail
 rw[HW3.out.2]
 rw[HW3.out.1]
 clear HW3
 go_loopw [8,18] (fun _ t wr=>∃k:Nat,t= .int .i64 k∧k≤A.length∧Hid (TB g r q 62 W wr (i+n) bv ov #[.string ⟨#[]⟩,.string ⟨#[]⟩] #[.string (bs nm),.string ⟨#[]⟩])) (fun _ t _=>downV A.length t)
 case atStart=>exact⟨0,rfl,Nat.zero_le _,HS⟩
 case round=>
  clear HS
  obtain⟨k,rfl,hk,HS⟩:=hrel
  by_cases hkl:k< A.length
  ·
   have hkI:(k:Int)< (A.length:Int):=by omega
   have hk0:(0:Int)≤(k:Int):=by omega
   obtain⟨ba,oa,rfl,hba,_,y0,y1⟩:=attr_at (HA.out.1.exc HA.out.2.1 HS.out.x) k hkl
   have hnn:((bs A[k].n).toList==(bs nm).toList)=false:=by rw[bs_toList,bs_toList,beq_eq_false_iff_ne];exact HA.out.2.2 _ (List.getElem_mem hkl)
   have hE:Ext wr (wr.alloc (.cells #[.string (bs A[k].n),.string (bs A[k].v)] 62)):=(Ext.refl _).alloc _
   have e0:=blk_cell (HS.out.ext hE).r3 (k:=0) rfl
   obtain⟨yn,hyn⟩:∃x,A[k].n=x:=⟨_,rfl⟩
   obtain⟨yv,hyv⟩:∃x,A[k].v=x:=⟨_,rfl⟩
   rw[hyn]at hnn y0 e0 hE
   rw[hyv]at y1 e0 hE
   clear hyn hyv
   go_wp2_with fail
   go_roundw
   case rel=>exact⟨k+1,by go_num,by omega,Lh (HS.out.ext hE)⟩
   case measure=>simp only[downV];omega
  ·
   have hkI:¬(k:Int)< (A.length:Int):=by omega
   go_wp2_with fail
   refine(blanks_any (HS.out.sb HH.out (by omega)) (by omega)).mono ?_
   rintro e w4 ⟨rfl,hS4,hX4⟩
   rw[HN.out.2.2.2.1]at*
   have HB4:=HS.out.call hS4.blk hX4
   go_wp2_with fail
   refine(eat_any (HB4.sb HH.out (by omega)) [61] r1 HN.out.2.2.2.2.1 (by simp)).mono ?_
   rintro e w5 ⟨rfl,hS5,hX5⟩
   have HB5:=HB4.call hS5.blk hX5
   go_wp2_with fail
   replace hS5:SB g w5 s (i+n+b1+1) bv ov:=hS5
   refine(blanks_any hS5 (by omega)).mono ?_
   rintro e w6 ⟨rfl,hS6,hX6⟩
   rw[HN.out.2.2.2.2.2.1]at*
   have HB6:=HB5.call hS6.blk hX6
   go_wp2_with fail
   refine(xvalue_any hS6 qq vv rr HN.out.2.2.2.2.2.2.1 HN.out.2.2.2.2.2.2.2.1 HN.out.2.2.2.2.2.2.2.2).mono ?_
   rintro e w7 ⟨rfl,hS7,hX7⟩
   have HB7:=HB6.call hS7.blk hX7
   have hle:i+n+b1+1+b2+vv.length+2≤s.length:=hS7.hi
   obtain⟨w8,hw8⟩:∃X,w7.setCell ⟨q,1,none⟩ (.string (bs vv))=X:=⟨_,rfl⟩
   have HB8:=HB7.set 1 (.string (bs vv))
   rw[hw8]at HB8
   simp only[List.setIfInBounds_toArray,List.set_cons_zero,List.set_cons_succ]at HB8
   have m0:=blk_cell HB7.r3 (k:=0) rfl;have m1:=blk_cell HB7.r3 (k:=1) rfl
   have n0:=blk_free (k:=0) HB7.r3;have n1:=blk_free (k:=1) HB7.r3
   have c0:=blk_cell HB8.r3 (k:=0) rfl;have c1:=blk_cell HB8.r3 (k:=1) rfl
   have d0:=blk_cell HB8.r2 (k:=0) rfl;have d1:=blk_cell HB8.r2 (k:=1) rfl
   have f0:=blk_free (k:=0) HB8.r2;have f1:=blk_free (k:=1) HB8.r2
   obtain⟨w9,hw9⟩:∃X,(w8.setCell ⟨r,0,none⟩ (.string (bs nm))).setCell ⟨r,1,none⟩ (.string (bs vv))=X:=⟨_,rfl⟩
   have hb9:w9.heap[r]? =some (.cells #[.string (bs nm),.string (bs vv)] 62 (0,0)):=by rw[←hw9];exact blk_setc (blk_setc HB8.r2)
   have hx9:Exc g W w9:=by rw[←hw9];exact(HB8.x.new HB8.hr 0 _).new HB8.hr 1 _
   have hg9:w9.heap[g]? =some (.cells #[bv,.int .i64 (i+n+b1+1+b2+vv.length+2:Nat),ov] 116 (0,0)):=by rw[←hw9];exact(Below.heap_setCell _ _ _ _ (by have:=HB8.hg;simp only;omega)).trans ((Below.heap_setCell _ _ _ _ (by have:=HB8.hg;simp only;omega)).trans HB8.b)
   have HZ9:=Lh (And.intro hb9 (And.intro hx9 hg9))
   clear hS4 hX4 HB4 hS5 hX5 HB5 hS6 hX6 HB6 hS7 hX7 HB7 HB8 hb9 hx9 hg9 HS
   go_wp2_with fail
   refine bodyPost_ret (res_one rfl _ _ _ ⟨r,0,none⟩ ?_ (load_att HZ9.out.1)) rfl ?_
   ·
    first | rfl | simp
   clear hw9
   exact⟨rfl,HH.out.exc HZ9.out.2.1 HZ9.out.2.2 hle,HZ9.out.2.1⟩
end
end Go.Proofs.YtebhipeeogoagaaGreatDoor
