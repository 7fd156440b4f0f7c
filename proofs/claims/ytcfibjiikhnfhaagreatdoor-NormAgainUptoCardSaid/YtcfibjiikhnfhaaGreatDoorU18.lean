/-
 The lexer's state,its small functions. Helper lemmas;no statement of the seat is proved here.
-/
import Derived.Test.YtcfibjiikhnfhaaGreatDoorU17
import Derived.Test.YtcfibjiikhnfhaaGreatDoorZhelf2
namespace Go.Proofs.YtcfibjiikhnfhaaGreatDoor
open Go.RowKit
set_option maxHeartbeats 32000000
set_option maxRecDepth 100000
set_option linter.unusedVariables false
set_option linter.unusedSimpArgs false
section
variable {ev:Operand→Value} {oi:Oper} {x y lo hi:Operand} {s:List UInt8} {i j:Nat}
theorem exec_sidx (ho:oi.op= .index 9 x y) (hx:ev x= .string (bs s)) (hy:ev y= .int .i64 i) (h:i< s.length) (W:World):(execOp ev oi).run Tryz.prog W= .ok (.value (.int .u8 (s[i].toNat:Int))) W:=by
 have h1:(i:Int)< ((bs s).size:Int):=by rw[bs_size];omega
 have h2:i< (bs s).size:=by rw[bs_size];omega
 simp only[execOp,ho,hx,hy]
 simp[go_sem,h1,h2]
 rfl
theorem exec_u8i32 (ho:oi.op= .convert 5 21 x) (hx:ev x= .int .u8 i) (h:i< 256) (W:World):(execOp ev oi).run Tryz.prog W= .ok (.value (.int .i32 i)) W:=by
 have e:IntKind.i32.wrap (i:Int)=(i:Int):=by rw[IntKind.wrap_i32];omega
 simp only[execOp,ho,hx]
 simp[go_sem,e]
section
variable {t u:TypeId} {k:IntKind} {B:Bool}
theorem exec_lss (ho:oi.op= .binOp .lss t x y u) (hx:ev x= .int k i) (hy:ev y= .int k j) (h:decide (i< j)=B) (W:World):(execOp ev oi).run Tryz.prog W= .ok (.value (.bool B)) W:=by
 subst h;simp only[execOp,ho,hx,hy];simp[go_sem]
theorem exec_add (ho:oi.op= .binOp .add 3 x y u) (hx:ev x= .int .i64 i) (hy:ev y= .int .i64 j) (h:i+j≤9223372036854775807) (W:World):(execOp ev oi).run Tryz.prog W= .ok (.value (.int .i64 (i+j:Nat))) W:=by
 have e:IntKind.i64.wrap ((i:Int)+(j:Int))=(i:Int)+(j:Int):=by rw[IntKind.wrap_i64];omega
 simp only[execOp,ho,hx,hy];simp[go_sem,e]
theorem exec_sub (ho:oi.op= .binOp .sub 3 x y u) (hx:ev x= .int .i64 i) (hy:ev y= .int .i64 j) (h:j≤i) (h2:i≤9223372036854775807) (W:World):(execOp ev oi).run Tryz.prog W= .ok (.value (.int .i64 (i - j:Nat))) W:=by
 have e:IntKind.i64.wrap ((i:Int) - (j:Int))=((i - j:Nat):Int):=by rw[IntKind.wrap_i64];omega
 simp only[execOp,ho,hx,hy];simp[go_sem,e]
theorem exec_neq (ho:oi.op= .binOp .neq t x y u) (hx:ev x= .int k i) (hy:ev y= .int k j) (h:(!decide (i=j))=B) (W:World):(execOp ev oi).run Tryz.prog W= .ok (.value (.bool B)) W:=by
 subst h;simp only[execOp,ho,hx,hy];simp[go_sem,bne];by_cases h:i=j<;> simp[h];omega
end
theorem exec_bfrom {b off n c:Nat} (ho:oi.op= .slice 43 x (some lo) none none) (hx:ev x= .slice (some ⟨b,off,none⟩) n c) (hl:ev lo= .int .i64 i) (h:i< n) (hc:n≤c) (W:World):(execOp ev oi).run Tryz.prog W= .ok (.value (.slice (some ⟨b,off+i,none⟩) (n - i) (c - i))) W:=by
 refine exec_slice ho ?_
 have h1:¬c=i:=by omega
 simp only[hx,Option.map_some,Option.map_none,hl]
 rw[run_sliceAt_slice W 43 _ _ _ _ (by kernel_rfl),run_slice_l W 43 _ n c (by kernel_rfl) .i64 _ (by omega) (by omega)]
 simp[go_sem,h1]
theorem exec_bcut {b off n c:Nat} (ho:oi.op= .slice 43 x (some lo) (some hi) none) (hx:ev x= .slice (some ⟨b,off,none⟩) n c) (hl:ev lo= .int .i64 i) (hh:ev hi= .int .i64 j) (h:i≤j) (h2:j≤c) (hc:i< c) (W:World):(execOp ev oi).run Tryz.prog W= .ok (.value (.slice (some ⟨b,off+i,none⟩) (j - i) (c - i))) W:=by
 refine exec_slice ho ?_
 have h1:¬c=i:=by omega
 simp only[hx,Option.map_some,Option.map_none,hl,hh]
 rw[run_sliceAt_slice W 43 _ _ _ _ (by kernel_rfl),run_slice_lh W 43 _ n c (by kernel_rfl) .i64 .i64 _ _ (by omega) (by omega) (by omega)]
 simp[go_sem,h1]
theorem exec_bidx {b off n c:Nat} (ho:oi.op= .indexAddr 43 x lo) (hx:ev x= .slice (some ⟨b,off,none⟩) n c) (hl:ev lo= .int .i64 i) (h:i< n) (W:World):(execOp ev oi).run Tryz.prog W= .ok (.value (.pointer (some ⟨b,off+i,none⟩))) W:=by
 have h1:(i:Int)< (n:Int):=by omega
 have h0:(0:Int)≤(i:Int):=by omega
 simp only[execOp,ho,hx,hl]
 simp[go_sem,h1,h0]
theorem exec_convb {t:Bytes} {W W':World} {v:Value} (ho:oi.op= .convert 9 43 x) (hx:ev x= .string (bs t)) (h:(convert 9 43 (.string (bs t))).run Tryz.prog W= .ok v W'):(execOp ev oi).run Tryz.prog W= .ok (.value v) W':=by
 unfold execOp
 simp only[ho,hx,Sem.run_bind,h,Result.andThen_ok,Sem.run_pure]
theorem exec_bconv {W:World} {u v:Value} (ho:oi.op= .convert 43 9 x) (hx:ev x=u) (h:(convert 43 9 u).run Tryz.prog W= .ok v W):(execOp ev oi).run Tryz.prog W= .ok (.value v) W:=by
 unfold execOp
 simp only[ho,hx,Sem.run_bind,h,Result.andThen_ok,Sem.run_pure]
end
structure SB (g:Nat) (W:World) (s:Bytes) (i:Nat) (bv ov:Value):Prop where
 blk:W.heap[g]? =some (.cells #[bv,.int .i64 i,ov] 122 (0,0))
 row:Rep W (fun b=>b≠g) bv (numsD .u8 (byI s))
 hi:i≤s.length
 hl:s.length≤65536
 tb:∀W',Exc g W W'→EN W'
theorem Exc.of (g:Nat) {a b:World} (h:Ext a b):Exc g a b:=(Exc.refl g a).ext h
section
variable {g:Nat} {W W':World} {s:Bytes} {i:Nat} {bv ov:Value}
theorem SB.lt (h:SB g W s i bv ov):g< W.heap.size:=blk_lt h.blk
theorem SB.c0 (h:SB g W s i bv ov):W.cell? ⟨g,0,none⟩=some bv:=blk_cell h.blk (k:=0) rfl
theorem SB.c1 (h:SB g W s i bv ov):W.cell? ⟨g,1,none⟩=some (.int .i64 i):=blk_cell h.blk (k:=1) rfl
theorem SB.c2 (h:SB g W s i bv ov):W.cell? ⟨g,2,none⟩=some ov:=blk_cell h.blk (k:=2) rfl
theorem SB.f (h:SB g W s i bv ov) (k:Nat):W.frozen? ⟨g,k,none⟩=false:=blk_free h.blk
theorem SB.ext (h:SB g W s i bv ov) (hE:Ext W W'):SB g W' s i bv ov:=
 ⟨(Below.block hE g h.lt).trans h.blk,h.row.ext hE,h.hi,h.hl,fun W2 h2=>h.tb W2 ((Exc.of g hE).trans h2)⟩
theorem blk_setc {w:World} {k:Nat} {cs:Array Value} {t:TypeId} {fz:Nat×Nat} {u:Value} (h:w.heap[g]? =some (.cells cs t fz)):(w.setCell ⟨g,k,none⟩ u).heap[g]? =some (.cells (cs.setIfInBounds k u) t fz):=by
 have hlt:=blk_lt h
 have h':w.heap[g]= .cells cs t fz:=by simpa [Array.getElem?_eq_getElem hlt]using h
 show(w.heap.modify g _)[g]? =_
 rw[Array.getElem?_eq_getElem (by simpa using hlt),Array.getElem_modify_self,h']
 rfl
theorem SB.put (h:SB g W s i bv ov) (j:Nat) (hj:j≤s.length):SB g (W.setCell ⟨g,1,none⟩ (.int .i64 j)) s j bv ov∧Exc g W (W.setCell ⟨g,1,none⟩ (.int .i64 j)):=by
 have hX:Exc g W (W.setCell ⟨g,1,none⟩ (.int .i64 j)):=(Exc.refl g W).set rfl _
 exact⟨⟨blk_setc h.blk,h.row.exc (fun b hb=>hb) hX,hj,h.hl,fun W2 h2=>h.tb W2 (hX.trans h2)⟩,hX⟩
theorem SB.byte {bb off n c:Nat} (h:SB g W s i (.slice (some ⟨bb,off,none⟩) n c) ov) (hi:i< s.length):bb< W.heap.size∧W.cell? ⟨bb,off+i,none⟩=some (.int .u8 (s[i].toNat:Nat)):=by
 obtain⟨b,o,e,hb,hc⟩:=by_at h.row i hi
 injection e with e
 injection e with e1 e2
 subst e1 e2
 exact⟨hb,hc⟩
theorem SB.slice (h:SB g W s i bv ov) (hi:0< s.length):∃bb off bc,bv= .slice (some ⟨bb,off,none⟩) s.length bc∧s.length≤bc∧bc≤9223372036854775807:=by
 obtain⟨a,c,rfl,h1,h2⟩:=by_count h.row
 obtain⟨b,o,rfl,_,_⟩:=by_at h.row 0 hi
 exact⟨b,o,c,rfl,h1,h2⟩
theorem need_any (h:SB g W s i bv ov) (hi:i< s.length):Calls Tryz.prog 202 #[.pointer (some ⟨g,0,none⟩)] W fun e w'=>e= .returned (.tuple #[])∧Ext W w':=by
 obtain⟨a,bc,rfl,_,_⟩:=by_count h.row
 have c0:=h.c0
 have c1:=h.c1
 have hI:decide ((s.length:Int)≤(i:Int))=false:=decide_eq_false (by omega)
 clear h
 go_enter Tryz.func202,Tryz.ntmps202
 go_wp2_with fail
 go_quiet (fail)
 go_wp2_with fail
 exact bodyPost_end (results_none rfl _ _ _) rfl ⟨rfl,(Ext.refl W).drewN _⟩
def hasS (l t:Bytes):Bool:=t.isPrefixOf l
theorem bytesOf_byI (l:Bytes):Lib.bytesOf (byI l)=l:=by
 unfold Lib.bytesOf byI
 rw[List.map_map]
 conv=>rhs;rw[←List.map_id l]
 exact List.map_congr_left fun x _=>by simp
theorem byI_getD (l:Bytes) (k:Nat) (h:k< l.length):(byI l).getD k 0=(l[k].toNat:Int):=by
 rw[List.getD_eq_getElem?_getD,List.getElem?_eq_getElem (by rw[byI_len];exact h)]
 simp[byI]
theorem hp_any {p:Nat→Prop} {bb off bc:Nat} (hrow:Rep W p (.slice (some ⟨bb,off,none⟩) s.length bc) (numsD .u8 (byI s))) (hcap:s.length≤bc) {t:Bytes} (hi:i< s.length) (ht:t≠ []) (w:World) (hE:Ext W w) (cb tc:Nat) (hcb:∀(k:Nat) (hk:k< t.length),w.cell? ⟨cb,k,none⟩=some (.int .u8 (t[k].toNat:Int))):
  Calls Tryz.prog 190 #[.slice (some ⟨bb,off+i,none⟩) (s.length - i) (bc - i),.slice (some ⟨cb,0,none⟩) t.length tc] w fun e w'=>e= .returned (.bool (hasS (s.drop i) t))∧Ext w w':=by
 refine(Tryz.bytes_HasPrefix bb (off+i) (s.length - i) (bc - i) cb 0 t.length tc (byI (s.drop i)) (byI t) w (by rw[byI_len,List.length_drop]) (byI_len t) (by omega) (fun k hk=> ?_) (fun k hk=> ?_)).mono ?_
 ·
  obtain⟨b,o,e,hb,hc⟩:=by_at hrow (i+k) (by omega)
  injection e with e
  injection e with e1 e2
  subst e1 e2
  have hkd:k< (s.drop i).length:=by rw[List.length_drop];exact hk
  rw[byI_getD _ k hkd,show off+i+k=off+(i+k) by omega,hE.keep hb hc,List.getElem_drop]
 ·
  rw[byI_getD _ k hk,Nat.zero_add];exact hcb k hk
 ·
  rintro e w' ⟨rfl,rfl⟩
  rw[bytesOf_byI,bytesOf_byI]
  exact⟨rfl,Ext.refl _⟩
theorem has_any (h:SB g W s i bv ov) (hi:i< s.length) (t:Bytes) (ht:t≠ []):Calls Tryz.prog 148 #[.pointer (some ⟨g,0,none⟩),.string (bs t)] W fun e w'=>e= .returned (.bool (hasS (s.drop i) t))∧Ext W w':=by
 obtain⟨bb,off,bc,rfl,hcap,hbc⟩:=h.slice (by omega)
 have hlt:=h.lt
 have hrow:=h.row
 have c0:=h.c0
 have c1:=h.c1
 obtain⟨wz,hwz⟩:∃wz,wz=W:=⟨_,rfl⟩
 subst hwz
 obtain⟨tc,wc,cs,hcv,hEc,hzc,hbk,hcs⟩:=conv_block (World.drew wz) t
 obtain⟨cb,hcbe⟩:∃c,(World.drew wz).heap.size=c:=⟨_,rfl⟩
 rw[hcbe]at hcv hbk
 have hcb:∀(k:Nat) (hk:k< t.length),wc.cell? ⟨cb,k,none⟩=some (.int .u8 (t[k].toNat:Int)):=fun k hk=>by simp[World.cell?,hbk,hcs k hk]
 clear h hbk hcs hcbe hzc
 go_enter Tryz.func148,Tryz.ntmps148
 go_wp2_with fail
 refine rg_begin (S:=Sx wz) (by kernel_rfl) (Sx.begin _) ?_
 have hS:Sx wz (World.drew wz):=(Sx.begin _)
 refine rg_t 0 (some 5) (.pointer (some ⟨g,0,none⟩)) rfl hS (fun w' hs=>by rfl) ?_
 simp only[Act.put,sA,sZ,sS]
 refine rg_t 1 (some 6) (.pointer (some ⟨g,0,none⟩)) rfl hS (fun w' hs=>by first | rfl | go_simp) ?_
 simp only[Act.put,sA,sZ,sS]
 refine rg_t 2 (some 7) (.pointer (some ⟨g,0,none⟩)) rfl hS (fun w' hs=>by first | rfl | go_simp) ?_
 simp only[Act.put,sA,sZ,sS]
 refine rg_t 3 (some 8) (.slice (some ⟨bb,off,none⟩) s.length bc) rfl hS (fun w' hs=>by(have h0:=hs.cell hlt c0;go_simp)) ?_
 simp only[Act.put,sA,sZ,sS]
 refine rg_t 4 (some 9) (.pointer (some ⟨g,0,none⟩)) rfl hS (fun w' hs=>by rfl) ?_
 simp only[Act.put,sA,sZ,sS]
 refine rg_t 5 (some 10) (.pointer (some ⟨g,0,none⟩)) rfl hS (fun w' hs=>by first | rfl | go_simp) ?_
 simp only[Act.put,sA,sZ,sS]
 refine rg_t 6 (some 11) (.pointer (some ⟨g,1,none⟩)) rfl hS (fun w' hs=>by first | rfl | go_simp) ?_
 simp only[Act.put,sA,sZ,sS]
 refine rg_t 7 (some 12) (.int .i64 (i:Nat)) rfl hS (fun w' hs=>by(have h0:=hs.cell hlt c1;go_simp)) ?_
 simp only[Act.put,sA,sZ,sS]
 refine rg_t 8 (some 13) (.slice (some ⟨bb,off+i,none⟩) (s.length - i) (bc - i)) rfl hS (fun w' hs=>by exact exec_bfrom (i:=i) rfl rfl rfl (by omega) (by omega) _) ?_
 simp only[Act.put,sA,sZ,sS]
 refine rg_t 9 (some 14) (.string (bs t)) rfl hS (fun w' hs=>by rfl) ?_
 simp only[Act.put,sA,sZ,sS]
 refine rg_step 10 (some 15) (.slice (some ⟨cb,0,none⟩) t.length tc) wc rfl rfl (by kernel_rfl) (by rfl) (exec_convb rfl rfl hcv) (hS.ext hEc) ?_
 have hS2:Sx wz wc:=hS.ext hEc
 simp only[Act.put,sA,sZ,sS]
 refine rg_call 11 (some 16) 190 #[.slice (some ⟨bb,off+i,none⟩) (s.length - i) (bc - i),.slice (some ⟨cb,0,none⟩) t.length tc] rfl rfl (by kernel_rfl) (by rfl) (fun w'=>by first | rfl | go_simp) (R:=fun v w'=>v= .bool (hasS (s.drop i) t)∧Ext wc w') ?_ ?_
 ·
  refine(hp_any hrow hcap hi ht wc (show Ext wz wc from hS2) cb tc hcb).mono ?_
  rintro e w' ⟨rfl,h⟩
  exact⟨_,rfl,rfl,h⟩
 rintro _ wr1 ⟨rfl,hBr1⟩
 have hS1:=hS2.ext hBr1
 refine⟨hS1,?_⟩
 simp only[Act.put,sA,sZ,sS]
 refine rg_t 12 (some 4) (.bool (hasS (s.drop i) t)) rfl hS1 (fun w' hs=>by rfl) ?_
 simp only[Act.put,sA,sZ,sS]
 refine rg_done (by kernel_rfl) ?_
 go_wp2_with fail
 go_ret
 exact⟨rfl,hS1⟩
theorem drop_at {t r:Bytes} (h:s.drop i=t++r) (hi:i≤s.length):s.length=i+t.length+r.length∧∀(k:Nat) (hk:k< t.length) (hm:i+k< s.length),s[i+k]=t[k]:=by
 have e:=congrArg List.length h
 rw[List.length_drop,List.length_append]at e
 refine⟨by omega,fun k hk hm=> ?_⟩
 have h1:(s.drop i)[k]? =(t++r)[k]? :=by rw[h]
 rw[List.getElem?_drop,List.getElem?_append_left hk,List.getElem?_eq_getElem hm,List.getElem?_eq_getElem hk]at h1
 exact Option.some.inj h1
theorem eat_any (h:SB g W s i bv ov) (t r:Bytes) (ht:s.drop i=t++r) (h0:t≠ []):Calls Tryz.prog 201 #[.pointer (some ⟨g,0,none⟩),.string (bs t)] W fun e w'=>e= .returned (.tuple #[])∧SB g w' s (i+t.length) bv ov∧Exc g W w':=by
 obtain⟨hlen,hgt⟩:=drop_at ht h.hi
 have hpos:0< t.length:=List.length_pos_iff.2 h0
 obtain⟨bb,off,bc,rfl,hcap,hbc⟩:=h.slice (by omega)
 have hl:=h.hl
 have htl:t.length≤65536:=by omega
 have HG:=Lh hgt
 have HL:=Lh hlen
 have HS:=Lh (And.intro h (Exc.refl g W))
 clear h ht h0 hgt hlen
 go_enter Tryz.func201,Tryz.ntmps201
 go_wp2_with fail
 go_loopw [4,7] (fun _ t7 wr=>∃k:Nat,t7= .int .i64 k∧k≤t.length∧Hid (SB g wr s (i+k) (.slice (some ⟨bb,off,none⟩) s.length bc) ov∧Exc g W wr)) (fun _ t7 _=>downV t.length t7)
 case atStart=>exact⟨0,rfl,Nat.zero_le _,HS⟩
 case round=>
  clear HS
  obtain⟨k,rfl,hk,HI⟩:=hrel
  by_cases hlt':k< t.length
  ·
   have hkI:(k:Int)< (t.length:Int):=by omega
   obtain⟨m,hm⟩:∃m,i+k=m:=⟨_,rfl⟩
   have hms:m< s.length:=by have:=HL.out;omega
   have hne:(!decide ((s[m]).toNat=t[k].toNat))=false:=by subst hm;rw[HG.out k hlt' hms];simp
   rw[hm]at HI
   have HN:=Lh (need_any HI.out.1 hms)
   have HM:=Lh hm
   clear hm
   go_wp2_with fail
   refine HN.out.mono ?_
   rintro e w1 ⟨rfl,hE1⟩
   clear HN
   have hSB:=HI.out.1.ext hE1
   have HI2:=Lh (And.intro hSB (HI.out.2.ext hE1))
   obtain⟨wz,hwz⟩:∃wz,wz=w1:=⟨_,rfl⟩
   subst hwz
   have c0:=hSB.c0;have c1:=hSB.c1;have hlt:=hSB.lt
   obtain⟨hbl,cm⟩:=hSB.byte hms
   clear HI hE1 hSB
   go_wp2_with fail
   refine rg_begin (S:=Sx wz) (by kernel_rfl) (Sx.begin _) ?_
   have hS:Sx wz (World.drew wz):=(Sx.begin _)
   refine rg_t 0 (some 12) (.pointer (some ⟨g,0,none⟩)) rfl hS (fun w' hs=>by rfl) ?_
   simp only[Act.put,sA,sZ,sS]
   refine rg_t 1 (some 13) (.pointer (some ⟨g,0,none⟩)) rfl hS (fun w' hs=>by first | rfl | go_simp) ?_
   simp only[Act.put,sA,sZ,sS]
   refine rg_t 2 (some 14) (.pointer (some ⟨g,0,none⟩)) rfl hS (fun w' hs=>by first | rfl | go_simp) ?_
   simp only[Act.put,sA,sZ,sS]
   refine rg_t 3 (some 15) (.slice (some ⟨bb,off,none⟩) s.length bc) rfl hS (fun w' hs=>by(have h0:=hs.cell hlt c0;go_simp)) ?_
   simp only[Act.put,sA,sZ,sS]
   refine rg_t 4 (some 16) (.pointer (some ⟨g,0,none⟩)) rfl hS (fun w' hs=>by rfl) ?_
   simp only[Act.put,sA,sZ,sS]
   refine rg_t 5 (some 17) (.pointer (some ⟨g,0,none⟩)) rfl hS (fun w' hs=>by first | rfl | go_simp) ?_
   simp only[Act.put,sA,sZ,sS]
   refine rg_t 6 (some 18) (.pointer (some ⟨g,1,none⟩)) rfl hS (fun w' hs=>by first | rfl | go_simp) ?_
   simp only[Act.put,sA,sZ,sS]
   refine rg_t 7 (some 19) (.int .i64 (m:Nat)) rfl hS (fun w' hs=>by(have h0:=hs.cell hlt c1;go_simp)) ?_
   simp only[Act.put,sA,sZ,sS]
   refine rg_t 8 (some 20) (.pointer (some ⟨bb,off+m,none⟩)) rfl hS (fun w' hs=>by exact exec_bidx (i:=m) rfl rfl rfl (by omega) _) ?_
   simp only[Act.put,sA,sZ,sS]
   refine rg_t 9 (some 21) (.int .u8 (s[m].toNat:Nat)) rfl hS (fun w' hs=>by(have h0:=hs.cell hbl cm;go_simp)) ?_
   simp only[Act.put,sA,sZ,sS]
   refine rg_t 10 (some 22) (.string (bs t)) rfl hS (fun w' hs=>by rfl) ?_
   simp only[Act.put,sA,sZ,sS]
   refine rg_t 11 (some 23) (.int .i64 (k:Nat)) rfl hS (fun w' hs=>by rfl) ?_
   simp only[Act.put,sA,sZ,sS]
   refine rg_t 12 (some 24) (.int .u8 (t[k].toNat:Nat)) rfl hS (fun w' hs=>by exact exec_sidx (i:=k) rfl rfl rfl (by omega) _) ?_
   simp only[Act.put,sA,sZ,sS]
   refine rg_t 13 (some 25) (.bool false) rfl hS (fun w' hs=>by exact exec_neq rfl rfl rfl hne _) ?_
   simp only[Act.put,sA,sZ,sS]
   refine rg_done (by kernel_rfl) ?_
   obtain⟨w2,hw2⟩:∃w,World.drew wz=w:=⟨_,rfl⟩
   have hE2:Ext wz w2:=by rw[←hw2];exact(Ext.refl wz).drew
   rw[hw2]
   have hSB2:=HI2.out.1.ext hE2
   have hX2:=HI2.out.2.ext hE2
   have c1:=hSB2.c1;have f1:=hSB2.f 1
   have HP:=Lh (hSB2.put (m+1) (by omega))
   have HX:=Lh hX2
   clear c0 hlt hbl cm hS hw2 hE2 hSB2 hX2 HI2 hne
   go_wp2_with fail
   go_roundw
   case rel=>exact⟨k+1,by go_num,by omega,Lh ⟨by rw[show i+(k+1)=m+1 by rw[←HM.out];omega];exact HP.out.1,HX.out.trans HP.out.2⟩⟩
   case measure=>simp only[downV];omega
  ·
   have hkI:¬(k:Int)< (t.length:Int):=by omega
   obtain rfl:k=t.length:=by omega
   go_wp2_with fail
   exact bodyPost_end (results_none rfl _ _ _) rfl ⟨rfl,HI.out⟩
def blankB (c:UInt8):Bool:=blankI (c.toNat:Int)
def blS (l:Bytes):Nat:=(l.takeWhile blankB).length
theorem blS_go {s:Bytes} {i:Nat} (h:i< s.length):blS (s.drop i)=if blankB s[i]=true then blS (s.drop (i+1))+1 else 0:=by
 unfold blS
 rw[List.drop_eq_getElem_cons h,List.takeWhile_cons]
 split<;> simp
def atQ (N g:Nat) (w:World):Nat:=match w.cell? ⟨g,1,none⟩with
 | some (.int _ i)=>N - i.toNat
 | _=>0
theorem blanks_any (h:SB g W s i bv ov) (hi:i< s.length):Calls Tryz.prog 191 #[.pointer (some ⟨g,0,none⟩)] W fun e w'=>e= .returned (.bool (decide (0< blS (s.drop i))))∧SB g w' s (i+blS (s.drop i)) bv ov∧Exc g W w':=by
 obtain⟨R,hR⟩:∃R,i+blS (s.drop i)=R:=⟨_,rfl⟩
 have e0:decide (0< blS (s.drop i))=decide (i< R):=by rw[←hR,decide_eq_decide];omega
 rw[hR,e0]
 obtain⟨bb,off,bc,rfl,hcap,hbc⟩:=h.slice (by omega)
 have hl:=h.hl
 have c1:=h.c1
 have HR:=Lh hR
 have HS:=Lh (And.intro h (Exc.refl g W))
 clear hR h e0
 go_enter Tryz.func191,Tryz.ntmps191
 go_wp2_with fail
 clear c1
 go_loopw [] (fun wr=>∃m:Nat,m≤s.length∧Hid (m+blS (s.drop m)=R)∧Hid (SB g wr s m (.slice (some ⟨bb,off,none⟩) s.length bc) ov∧Exc g W wr)) (fun wr=>atQ s.length g wr)
 case atStart=>exact⟨i,by omega,HR,HS⟩
 case round=>
  clear HS HR hi
  obtain⟨m,hm,HI,HS⟩:=hrel
  obtain⟨wz,hwz⟩:∃wz,wz=wr:=⟨_,rfl⟩
  subst hwz
  have hSB:=HS.out.1
  have c0:=hSB.c0;have c1:=hSB.c1;have hlt:=hSB.lt
  by_cases hms:m< s.length
  ·
   obtain⟨hbl,cm⟩:=hSB.byte hms
   have HB:=Lh fun W=>(blank_any (s[m].toNat:Int) W).mono fun e w' h=>(⟨h.1,by rw[h.2];exact Ext.refl _⟩:_∧Ext W w')
   have hgo:=blS_go hms
   unfold blankB at hgo
   obtain⟨b,hb⟩:∃b,blankI (s[m].toNat:Int)=b:=⟨_,rfl⟩
   rw[hb]at HB hgo
   have HG:=Lh hgo
   clear hb hgo hSB
   cases b with
   | true=>
    go_wp2_with fail
    refine rg_begin (S:=Sx wz) (by kernel_rfl) (Sx.begin _) ?_
    have hS:Sx wz (World.drew wz):=(Sx.begin _)
    refine rg_t 0 (some 8) (.pointer (some ⟨g,0,none⟩)) rfl hS (fun w' hs=>by rfl) ?_
    simp only[Act.put,sA,sZ,sS]
    refine rg_t 1 (some 9) (.pointer (some ⟨g,0,none⟩)) rfl hS (fun w' hs=>by first | rfl | go_simp) ?_
    simp only[Act.put,sA,sZ,sS]
    refine rg_t 2 (some 10) (.pointer (some ⟨g,1,none⟩)) rfl hS (fun w' hs=>by first | rfl | go_simp) ?_
    simp only[Act.put,sA,sZ,sS]
    refine rg_t 3 (some 11) (.int .i64 (m:Nat)) rfl hS (fun w' hs=>by(have h0:=hs.cell hlt c1;go_simp)) ?_
    simp only[Act.put,sA,sZ,sS]
    refine rg_t 4 (some 12) (.pointer (some ⟨g,0,none⟩)) rfl hS (fun w' hs=>by rfl) ?_
    simp only[Act.put,sA,sZ,sS]
    refine rg_t 5 (some 13) (.pointer (some ⟨g,0,none⟩)) rfl hS (fun w' hs=>by first | rfl | go_simp) ?_
    simp only[Act.put,sA,sZ,sS]
    refine rg_t 6 (some 14) (.pointer (some ⟨g,0,none⟩)) rfl hS (fun w' hs=>by first | rfl | go_simp) ?_
    simp only[Act.put,sA,sZ,sS]
    refine rg_t 7 (some 15) (.slice (some ⟨bb,off,none⟩) s.length bc) rfl hS (fun w' hs=>by(have h0:=hs.cell hlt c0;go_simp)) ?_
    simp only[Act.put,sA,sZ,sS]
    refine rg_t 8 (some 16) (.int .i64 s.length) rfl hS (fun w' hs=>by first | rfl | go_simp) ?_
    simp only[Act.put,sA,sZ,sS]
    refine rg_t 9 (some 17) (.bool true) rfl hS (fun w' hs=>by exact exec_lss (i:=m) (j:=s.length) rfl rfl rfl (decide_eq_true (by omega)) _) ?_
    simp only[Act.put,sA,sZ,sS]
    refine rg_t 10 (some 18) (.bool true) rfl hS (fun w' hs=>by rfl) ?_
    simp only[Act.put,sA,sZ,sS]
    refine rg_t 11 (some 19) (.pointer (some ⟨g,0,none⟩)) rfl hS (fun w' hs=>by rfl) ?_
    simp only[Act.put,sA,sZ,sS]
    refine rg_t 12 (some 20) (.pointer (some ⟨g,0,none⟩)) rfl hS (fun w' hs=>by first | rfl | go_simp) ?_
    simp only[Act.put,sA,sZ,sS]
    refine rg_t 13 (some 21) (.pointer (some ⟨g,0,none⟩)) rfl hS (fun w' hs=>by first | rfl | go_simp) ?_
    simp only[Act.put,sA,sZ,sS]
    refine rg_t 14 (some 22) (.slice (some ⟨bb,off,none⟩) s.length bc) rfl hS (fun w' hs=>by(have h0:=hs.cell hlt c0;go_simp)) ?_
    simp only[Act.put,sA,sZ,sS]
    refine rg_t 15 (some 23) (.pointer (some ⟨g,0,none⟩)) rfl hS (fun w' hs=>by rfl) ?_
    simp only[Act.put,sA,sZ,sS]
    refine rg_t 16 (some 24) (.pointer (some ⟨g,0,none⟩)) rfl hS (fun w' hs=>by first | rfl | go_simp) ?_
    simp only[Act.put,sA,sZ,sS]
    refine rg_t 17 (some 25) (.pointer (some ⟨g,1,none⟩)) rfl hS (fun w' hs=>by first | rfl | go_simp) ?_
    simp only[Act.put,sA,sZ,sS]
    refine rg_t 18 (some 26) (.int .i64 (m:Nat)) rfl hS (fun w' hs=>by(have h0:=hs.cell hlt c1;go_simp)) ?_
    simp only[Act.put,sA,sZ,sS]
    refine rg_t 19 (some 27) (.pointer (some ⟨bb,off+m,none⟩)) rfl hS (fun w' hs=>by exact exec_bidx (i:=m) rfl rfl rfl (by omega) _) ?_
    simp only[Act.put,sA,sZ,sS]
    refine rg_t 20 (some 28) (.int .u8 (s[m].toNat:Nat)) rfl hS (fun w' hs=>by(have h0:=hs.cell hbl cm;go_simp)) ?_
    simp only[Act.put,sA,sZ,sS]
    refine rg_t 21 (some 29) (.int .i32 (s[m].toNat:Nat)) rfl hS (fun w' hs=>by exact exec_u8i32 rfl rfl (UInt8.toNat_lt _) _) ?_
    simp only[Act.put,sA,sZ,sS]
    refine rg_call 22 (some 30) 43 #[.int .i32 (s[m].toNat:Nat)] rfl rfl (by kernel_rfl) (by rfl) (fun w'=>by first | rfl | go_simp) (R:=fun v w'=>v= .bool true∧Ext (World.drew wz) w') ?_ ?_
    ·
     refine(HB.out (World.drew wz)).mono ?_
     rintro e w' ⟨rfl,h⟩
     exact⟨_,rfl,rfl,h⟩
    rintro _ wr1 ⟨rfl,hBr1⟩
    have hS1:=hS.ext hBr1
    refine⟨hS1,?_⟩
    simp only[Act.put,sA,sZ,sS]
    refine rg_t 23 (some 31) (.bool true) rfl hS1 (fun w' hs=>by rfl) ?_
    simp only[Act.put,sA,sZ,sS]
    refine rg_done (by kernel_rfl) ?_
    obtain⟨w2,hw2⟩:∃w,wr1=w:=⟨_,rfl⟩
    rw[hw2]at hS1⊢
    have hSB2:=HS.out.1.ext (show Ext wz w2 from hS1)
    have hX2:=HS.out.2.ext (show Ext wz w2 from hS1)
    have d1:=hSB2.c1;have f1:=hSB2.f 1
    have HP:=Lh (hSB2.put (m+1) (by omega))
    have HX:=Lh hX2
    have HM:=Lh (show atQ s.length g wz=s.length - m by simp[atQ,c1])
    have HE:=Lh (show atQ s.length g (w2.setCell ⟨g,1,none⟩ (.int .i64 (m+1:Nat)))=s.length - (m+1) by simp only[atQ,HP.out.1.c1];rfl)
    clear c0 c1 hlt hbl cm hS hS1 hw2 hSB2 hX2 HS HB hBr1
    go_wp2_with fail
    go_roundw
    case rel=>exact⟨m+1,by omega,Lh (by have h1:=HI.out;have h2:=HG.out;simp at h2;omega),Lh ⟨HP.out.1,HX.out.trans HP.out.2⟩⟩
    case measure=>rw[HM.out];have h:=HE.out;first | (rw[h];omega) | (push_cast at h;rw[h];omega)
   | false=>
    go_wp2_with fail
    refine rg_begin (S:=Sx wz) (by kernel_rfl) (Sx.begin _) ?_
    have hS:Sx wz (World.drew wz):=(Sx.begin _)
    refine rg_t 0 (some 8) (.pointer (some ⟨g,0,none⟩)) rfl hS (fun w' hs=>by rfl) ?_
    simp only[Act.put,sA,sZ,sS]
    refine rg_t 1 (some 9) (.pointer (some ⟨g,0,none⟩)) rfl hS (fun w' hs=>by first | rfl | go_simp) ?_
    simp only[Act.put,sA,sZ,sS]
    refine rg_t 2 (some 10) (.pointer (some ⟨g,1,none⟩)) rfl hS (fun w' hs=>by first | rfl | go_simp) ?_
    simp only[Act.put,sA,sZ,sS]
    refine rg_t 3 (some 11) (.int .i64 (m:Nat)) rfl hS (fun w' hs=>by(have h0:=hs.cell hlt c1;go_simp)) ?_
    simp only[Act.put,sA,sZ,sS]
    refine rg_t 4 (some 12) (.pointer (some ⟨g,0,none⟩)) rfl hS (fun w' hs=>by rfl) ?_
    simp only[Act.put,sA,sZ,sS]
    refine rg_t 5 (some 13) (.pointer (some ⟨g,0,none⟩)) rfl hS (fun w' hs=>by first | rfl | go_simp) ?_
    simp only[Act.put,sA,sZ,sS]
    refine rg_t 6 (some 14) (.pointer (some ⟨g,0,none⟩)) rfl hS (fun w' hs=>by first | rfl | go_simp) ?_
    simp only[Act.put,sA,sZ,sS]
    refine rg_t 7 (some 15) (.slice (some ⟨bb,off,none⟩) s.length bc) rfl hS (fun w' hs=>by(have h0:=hs.cell hlt c0;go_simp)) ?_
    simp only[Act.put,sA,sZ,sS]
    refine rg_t 8 (some 16) (.int .i64 s.length) rfl hS (fun w' hs=>by first | rfl | go_simp) ?_
    simp only[Act.put,sA,sZ,sS]
    refine rg_t 9 (some 17) (.bool true) rfl hS (fun w' hs=>by exact exec_lss (i:=m) (j:=s.length) rfl rfl rfl (decide_eq_true (by omega)) _) ?_
    simp only[Act.put,sA,sZ,sS]
    refine rg_t 10 (some 18) (.bool true) rfl hS (fun w' hs=>by rfl) ?_
    simp only[Act.put,sA,sZ,sS]
    refine rg_t 11 (some 19) (.pointer (some ⟨g,0,none⟩)) rfl hS (fun w' hs=>by rfl) ?_
    simp only[Act.put,sA,sZ,sS]
    refine rg_t 12 (some 20) (.pointer (some ⟨g,0,none⟩)) rfl hS (fun w' hs=>by first | rfl | go_simp) ?_
    simp only[Act.put,sA,sZ,sS]
    refine rg_t 13 (some 21) (.pointer (some ⟨g,0,none⟩)) rfl hS (fun w' hs=>by first | rfl | go_simp) ?_
    simp only[Act.put,sA,sZ,sS]
    refine rg_t 14 (some 22) (.slice (some ⟨bb,off,none⟩) s.length bc) rfl hS (fun w' hs=>by(have h0:=hs.cell hlt c0;go_simp)) ?_
    simp only[Act.put,sA,sZ,sS]
    refine rg_t 15 (some 23) (.pointer (some ⟨g,0,none⟩)) rfl hS (fun w' hs=>by rfl) ?_
    simp only[Act.put,sA,sZ,sS]
    refine rg_t 16 (some 24) (.pointer (some ⟨g,0,none⟩)) rfl hS (fun w' hs=>by first | rfl | go_simp) ?_
    simp only[Act.put,sA,sZ,sS]
    refine rg_t 17 (some 25) (.pointer (some ⟨g,1,none⟩)) rfl hS (fun w' hs=>by first | rfl | go_simp) ?_
    simp only[Act.put,sA,sZ,sS]
    refine rg_t 18 (some 26) (.int .i64 (m:Nat)) rfl hS (fun w' hs=>by(have h0:=hs.cell hlt c1;go_simp)) ?_
    simp only[Act.put,sA,sZ,sS]
    refine rg_t 19 (some 27) (.pointer (some ⟨bb,off+m,none⟩)) rfl hS (fun w' hs=>by exact exec_bidx (i:=m) rfl rfl rfl (by omega) _) ?_
    simp only[Act.put,sA,sZ,sS]
    refine rg_t 20 (some 28) (.int .u8 (s[m].toNat:Nat)) rfl hS (fun w' hs=>by(have h0:=hs.cell hbl cm;go_simp)) ?_
    simp only[Act.put,sA,sZ,sS]
    refine rg_t 21 (some 29) (.int .i32 (s[m].toNat:Nat)) rfl hS (fun w' hs=>by exact exec_u8i32 rfl rfl (UInt8.toNat_lt _) _) ?_
    simp only[Act.put,sA,sZ,sS]
    refine rg_call 22 (some 30) 43 #[.int .i32 (s[m].toNat:Nat)] rfl rfl (by kernel_rfl) (by rfl) (fun w'=>by first | rfl | go_simp) (R:=fun v w'=>v= .bool false∧Ext (World.drew wz) w') ?_ ?_
    ·
     refine(HB.out (World.drew wz)).mono ?_
     rintro e w' ⟨rfl,h⟩
     exact⟨_,rfl,rfl,h⟩
    rintro _ wr1 ⟨rfl,hBr1⟩
    have hS1:=hS.ext hBr1
    refine⟨hS1,?_⟩
    simp only[Act.put,sA,sZ,sS]
    refine rg_t 23 (some 31) (.bool false) rfl hS1 (fun w' hs=>by rfl) ?_
    simp only[Act.put,sA,sZ,sS]
    refine rg_done (by kernel_rfl) ?_
    obtain⟨w2,hw2⟩:∃w,wr1=w:=⟨_,rfl⟩
    rw[hw2]at hS1⊢
    obtain rfl:m=R:=by have h1:=HI.out;have h2:=HG.out;simp at h2;omega
    have hSB2:=HS.out.1.ext (show Ext wz w2 from hS1)
    have hX2:=HS.out.2.ext (show Ext wz w2 from hS1)
    have d1:=hSB2.c1
    have HZ:=Lh (And.intro hSB2 hX2)
    clear c0 c1 hlt hbl cm hS hS1 hw2 hSB2 hX2 HS HB hBr1
    go_wp2_with fail
    go_ret
    exact⟨rfl,HZ.out⟩
  ·
   go_wp2_with fail
   refine rg_begin (S:=Sx wz) (by kernel_rfl) (Sx.begin _) ?_
   have hS:Sx wz (World.drew wz):=(Sx.begin _)
   refine rg_t 0 (some 8) (.pointer (some ⟨g,0,none⟩)) rfl hS (fun w' hs=>by rfl) ?_
   simp only[Act.put,sA,sZ,sS]
   refine rg_t 1 (some 9) (.pointer (some ⟨g,0,none⟩)) rfl hS (fun w' hs=>by first | rfl | go_simp) ?_
   simp only[Act.put,sA,sZ,sS]
   refine rg_t 2 (some 10) (.pointer (some ⟨g,1,none⟩)) rfl hS (fun w' hs=>by first | rfl | go_simp) ?_
   simp only[Act.put,sA,sZ,sS]
   refine rg_t 3 (some 11) (.int .i64 (m:Nat)) rfl hS (fun w' hs=>by(have h0:=hs.cell hlt c1;go_simp)) ?_
   simp only[Act.put,sA,sZ,sS]
   refine rg_t 4 (some 12) (.pointer (some ⟨g,0,none⟩)) rfl hS (fun w' hs=>by rfl) ?_
   simp only[Act.put,sA,sZ,sS]
   refine rg_t 5 (some 13) (.pointer (some ⟨g,0,none⟩)) rfl hS (fun w' hs=>by first | rfl | go_simp) ?_
   simp only[Act.put,sA,sZ,sS]
   refine rg_t 6 (some 14) (.pointer (some ⟨g,0,none⟩)) rfl hS (fun w' hs=>by first | rfl | go_simp) ?_
   simp only[Act.put,sA,sZ,sS]
   refine rg_t 7 (some 15) (.slice (some ⟨bb,off,none⟩) s.length bc) rfl hS (fun w' hs=>by(have h0:=hs.cell hlt c0;go_simp)) ?_
   simp only[Act.put,sA,sZ,sS]
   refine rg_t 8 (some 16) (.int .i64 s.length) rfl hS (fun w' hs=>by first | rfl | go_simp) ?_
   simp only[Act.put,sA,sZ,sS]
   refine rg_t 9 (some 17) (.bool false) rfl hS (fun w' hs=>by exact exec_lss (i:=m) (j:=s.length) rfl rfl rfl (decide_eq_false (by omega)) _) ?_
   simp only[Act.put,sA,sZ,sS]
   refine rg_t 10 (some 18) (.bool false) rfl hS (fun w' hs=>by rfl) ?_
   simp only[Act.put,sA,sZ,sS]
   refine rg_s 11 (some 19) rfl hS ?_
   simp only[Act.put,sA,sZ,sS]
   refine rg_s 12 (some 20) rfl hS ?_
   simp only[Act.put,sA,sZ,sS]
   refine rg_s 13 (some 21) rfl hS ?_
   simp only[Act.put,sA,sZ,sS]
   refine rg_s 14 (some 22) rfl hS ?_
   simp only[Act.put,sA,sZ,sS]
   refine rg_s 15 (some 23) rfl hS ?_
   simp only[Act.put,sA,sZ,sS]
   refine rg_s 16 (some 24) rfl hS ?_
   simp only[Act.put,sA,sZ,sS]
   refine rg_s 17 (some 25) rfl hS ?_
   simp only[Act.put,sA,sZ,sS]
   refine rg_s 18 (some 26) rfl hS ?_
   simp only[Act.put,sA,sZ,sS]
   refine rg_s 19 (some 27) rfl hS ?_
   simp only[Act.put,sA,sZ,sS]
   refine rg_s 20 (some 28) rfl hS ?_
   simp only[Act.put,sA,sZ,sS]
   refine rg_s 21 (some 29) rfl hS ?_
   simp only[Act.put,sA,sZ,sS]
   refine rg_s 22 (some 30) rfl hS ?_
   simp only[Act.put,sA,sZ,sS]
   refine rg_t 23 (some 31) (.bool false) rfl hS (fun w' hs=>by rfl) ?_
   simp only[Act.put,sA,sZ,sS]
   refine rg_done (by kernel_rfl) ?_
   obtain⟨w2,hw2⟩:∃w,World.drew wz=w:=⟨_,rfl⟩
   rw[hw2]at hS⊢
   obtain rfl:m=R:=by have h1:=HI.out;rw[List.drop_of_length_le (by omega)]at h1;exact h1
   have hSB2:=hSB.ext (show Ext wz w2 from hS)
   have hX2:=HS.out.2.ext (show Ext wz w2 from hS)
   have d1:=hSB2.c1
   have HZ:=Lh (And.intro hSB2 hX2)
   clear c0 c1 hlt hS hw2 hSB2 hX2 HS hSB
   go_wp2_with fail
   go_ret
   exact⟨rfl,HZ.out⟩
end
def nmL:Nat→Bool→Bytes→Nat
 | 0,_,_=>0
 | f+1,first,l=>if l= []then 0 else if(first && !beginsR (nextS l).1) || !goesR (nextS l).1 then 0 else(nextS l).2+nmL f false (l.drop (nextS l).2)
def nameS (l:Bytes):Nat:=nmL l.length true l
theorem nmL_le:∀(f:Nat) (b:Bool) (l:Bytes),nmL f b l≤l.length
 | 0,_,_=>Nat.zero_le _
 | f+1,b,l=>by
  unfold nmL
  split
  ·
   exact Nat.zero_le _
  ·
   split
   ·
    exact Nat.zero_le _
   ·
    have h1:=next_le l
    have h2:=nmL_le f false (l.drop (nextS l).2)
    rw[List.length_drop]at h2
    omega
theorem by_conv {w:World} {p:Nat→Prop} {b off cap:Nat} {L:Bytes} (h:Rep w p (.slice (some ⟨b,off,none⟩) L.length cap) (numsD .u8 (byI L))) (n:Nat) (hn:n≤L.length) {W:World} (hE:Ext w W) (c:Nat):
  (convert 43 9 (.slice (some ⟨b,off,none⟩) n c)).run Tryz.prog W= .ok (.string (bs (L.take n))) W:=by
 have e:(L.take n).length=n:=by rw[List.length_take];omega
 have h1:=run_convert_bytes_back (P:=Tryz.prog) W 43 9 5 ⟨b,off,none⟩ c (L.take n) Tryz.underlying43 Tryz.underlying5 Tryz.underlying9 (fun j hj=>by
  have hj':j< L.length:=by rw[e]at hj;omega
  obtain⟨b',o',e',hbl,hcell⟩:=by_at h j hj'
  injection e' with e'
  injection e' with e1 e2
  subst e1 e2
  have ea:(⟨b,off,none⟩:Addr).add j=⟨b,off+j,none⟩:=by unfold Addr.add;split<;> simp_all
  rw[ea,hE.keep hbl hcell]
  simp)
 rw[e]at h1
 exact h1
theorem decN_pos (n b0 b1 b2 b3:Nat):0< (Lib.decodeN n b0 b1 b2 b3).2:=by
 unfold Lib.decodeN
 repeat' split
 all_goals (simp only;omega)
theorem next_pos (l:List UInt8) (h:l≠ []) (hg:(nextS l).2=0):(nextS l).1=0:=by
 rw[nextS_eq l h]at hg⊢
 split
 ·
  rfl
 ·
  rename_i h1
  rw[if_neg h1]at hg
  split
  ·
   rename_i h2
   rw[if_pos h2]at hg
   exfalso
   unfold Lib.decodeGoB at hg
   have hs:¬(bs l).size=0:=by rw[bs_size];cases l with
    | nil=>exact absurd rfl h
    | cons a l=>simp
   rw[if_neg hs,Lib.decode_at]at hg
   have:=decN_pos ((bs l).size - 0) ((bs l).get! 0).toNat ((bs l).get! (0+1)).toNat ((bs l).get! (0+2)).toNat ((bs l).get! (0+3)).toNat
   omega
  ·
   rfl
theorem goesR_pos (l:Bytes) (h:l≠ []) (hg:goesR (nextS l).1=true):0< (nextS l).2:=by
 rcases Nat.eq_zero_or_pos (nextS l).2 with h0 | h0
 ·
  rw[next_pos l h h0]at hg
  exact absurd hg (by decide)
 ·
  exact h0
section
variable {g:Nat} {W W':World} {s:Bytes} {i:Nat} {bv ov:Value}
theorem SB.conv {bb off bc:Nat} (h:SB g W s i (.slice (some ⟨bb,off,none⟩) s.length bc) ov) (hbc:s.length≤bc) (hbc2:bc≤9223372036854775807) (a b:Nat) (hab:a≤b) (hb:b≤s.length) (ha:a< s.length) (hE:Ext W W'):
  (convert 43 9 (.slice (some ⟨bb,off+a,none⟩) (b - a) (bc - a))).run Tryz.prog W'= .ok (.string (bs ((s.drop a).take (b - a)))) W':=by
 have h1:=by_drop h.row a (by omega) rfl hbc2 hbc
 have hl:(s.drop a).length=s.length - a:=List.length_drop
 rw[←hl]at h1
 exact by_conv h1 (b - a) (by omega) hE _
theorem xname_any (h:SB g W s i bv ov) (hi:i< s.length) (hn:0< nameS (s.drop i)):Calls Tryz.prog 199 #[.pointer (some ⟨g,0,none⟩)] W fun e w'=>e= .returned (.string (bs ((s.drop i).take (nameS (s.drop i)))))∧SB g w' s (i+nameS (s.drop i)) bv ov∧Exc g W w':=by
 obtain⟨R,hR⟩:∃R,i+nameS (s.drop i)=R:=⟨_,rfl⟩
 have e1:(s.drop i).take (nameS (s.drop i))=(s.drop i).take (R - i):=by rw[←hR,Nat.add_sub_cancel_left]
 have hiR:i< R:=by omega
 rw[hR,e1]
 unfold nameS at hR
 obtain⟨bb,off,bc,rfl,hcap,hbc⟩:=h.slice (by omega)
 have hl:=h.hl
 have HN:=Lh (need_any h hi)
 have HS:=Lh (And.intro h (Exc.refl g W))
 have HR:Hid (s.length - i≤(s.drop i).length∧i+nmL (s.drop i).length true (s.drop i)=R):=Lh ⟨by rw[List.length_drop];exact Nat.le_refl _,hR⟩
 clear h hR e1 hn
 go_enter Tryz.func199,Tryz.ntmps199
 go_wp2_with fail
 refine HN.out.mono ?_
 rintro e w1 ⟨rfl,hE1⟩
 replace HS:=Lh (And.intro (HS.out.1.ext hE1) (HS.out.2.ext hE1))
 clear HN hE1
 have c1:=HS.out.1.c1
 go_wp2_with fail
 clear c1
 go_loopw [4,5] (fun _ _ wr=>∃m f:Nat,i≤m∧m≤s.length∧Hid (s.length - m≤f∧m+nmL f (decide (m=i)) (s.drop m)=R)∧Hid (SB g wr s m (.slice (some ⟨bb,off,none⟩) s.length bc) ov∧Exc g W wr)) (fun _ _ wr=>atQ s.length g wr)
 case atStart=>exact⟨i,(s.drop i).length,Nat.le_refl _,by omega,Lh ⟨HR.out.1,by rw[decide_eq_true rfl];exact HR.out.2⟩,HS⟩
 case round=>
  clear HS HR
  obtain⟨m,f,him,hml,HI,HS⟩:=hrel
  obtain⟨wz,hwz⟩:∃wz,wz=wr:=⟨_,rfl⟩
  subst hwz
  have c0:=HS.out.1.c0;have c1:=HS.out.1.c1;have hlt:=HS.out.1.lt
  have HMZ:=Lh (show atQ s.length g wz=s.length - m by simp only[atQ,c1];rfl)
  by_cases hms:m< s.length
  ·
   have hlI:decide ((m:Int)< (s.length:Int))=true:=decide_eq_true (by omega)
   obtain⟨f,rfl⟩:∃f',f=f'+1:=⟨f - 1,by have:=HI.out.1;omega⟩
   have hne:s.drop m≠ []:=fun e=>by have:=congrArg List.length e;rw[List.length_drop]at this;simp at this;omega
   have HG:Hid (s.length - m≤f+1∧m+(if(decide (m=i) && !beginsR (nextS (s.drop m)).1) || !goesR (nextS (s.drop m)).1 then 0 else(nextS (s.drop m)).2+nmL f false (s.drop (m+(nextS (s.drop m)).2)))=R):=Lh ⟨HI.out.1,by
    have h2:=HI.out.2
    rw[nmL,if_neg hne,List.drop_drop]at h2
    exact h2⟩
   have HP:=Lh (goesR_pos (s.drop m) hne)
   have hnl:=next_le (s.drop m)
   rw[List.length_drop]at hnl
   clear hne HI
   go_wp2_with fail
   go_quiet (fail)
   obtain⟨wy,hwy⟩:∃w,wz.drewN nq=w:=⟨_,rfl⟩
   have hEy:Ext wz wy:=by rw[←hwy];exact(Ext.refl wz).drewN _
   rw[hwy]
   replace HS:=Lh (And.intro (HS.out.1.ext hEy) (HS.out.2.ext hEy))
   clear hwy hEy c0 c1 hlt hlI
   obtain⟨wz,hwz⟩:∃wz,wz=wy:=⟨_,rfl⟩
   subst hwz
   have c0:=HS.out.1.c0;have c1:=HS.out.1.c1;have hlt:=HS.out.1.lt
   go_wp2_with fail
   refine rg_begin (S:=Sx wz) (by kernel_rfl) (Sx.begin _) ?_
   have hSn:Sx wz (World.drew wz):=(Sx.begin _)
   refine rg_t 0 (some 23) (.pointer (some ⟨g,0,none⟩)) rfl hSn (fun w' hs=>by rfl) ?_
   simp only[Act.put,sA,sZ,sS]
   refine rg_t 1 (some 24) (.pointer (some ⟨g,0,none⟩)) rfl hSn (fun w' hs=>by first | rfl | go_simp) ?_
   simp only[Act.put,sA,sZ,sS]
   refine rg_t 2 (some 25) (.pointer (some ⟨g,0,none⟩)) rfl hSn (fun w' hs=>by first | rfl | go_simp) ?_
   simp only[Act.put,sA,sZ,sS]
   refine rg_t 3 (some 26) (.slice (some ⟨bb,off,none⟩) s.length bc) rfl hSn (fun w' hs=>by(have h0:=hs.cell hlt c0;go_simp)) ?_
   simp only[Act.put,sA,sZ,sS]
   refine rg_t 4 (some 27) (.pointer (some ⟨g,0,none⟩)) rfl hSn (fun w' hs=>by rfl) ?_
   simp only[Act.put,sA,sZ,sS]
   refine rg_t 5 (some 28) (.pointer (some ⟨g,0,none⟩)) rfl hSn (fun w' hs=>by first | rfl | go_simp) ?_
   simp only[Act.put,sA,sZ,sS]
   refine rg_t 6 (some 29) (.pointer (some ⟨g,1,none⟩)) rfl hSn (fun w' hs=>by first | rfl | go_simp) ?_
   simp only[Act.put,sA,sZ,sS]
   refine rg_t 7 (some 30) (.int .i64 (m:Nat)) rfl hSn (fun w' hs=>by(have h0:=hs.cell hlt c1;go_simp)) ?_
   simp only[Act.put,sA,sZ,sS]
   refine rg_call 8 (some 31) 102 #[.slice (some ⟨bb,off,none⟩) s.length bc,.int .i64 (m:Nat)] rfl rfl (by kernel_rfl) (by rfl) (fun w'=>by first | rfl | go_simp) (R:=fun v w'=>v= .tuple #[.int .i32 ((nextS (s.drop m)).1:Nat),.int .i64 ((nextS (s.drop m)).2:Nat)]∧Ext (World.drew wz) w') ?_ ?_
   ·
    refine((next_any s m hms (by omega) (fun b=>b≠g) _ (World.drew wz) (fun W2 h2=>(HS.out.1.tb W2 ((Exc.of g (show Ext wz (World.drew wz) from hSn)).trans (Exc.of g h2))).tabs) (HS.out.1.row.ext (show Ext wz (World.drew wz) from hSn)))).mono ?_
    rintro e w' ⟨rfl,h⟩
    exact⟨_,rfl,rfl,h⟩
   rintro _ wrn1 ⟨rfl,hBrn1⟩
   have hSn1:=hSn.ext hBrn1
   refine⟨hSn1,?_⟩
   simp only[Act.put,sA,sZ,sS]
   refine rg_t 9 (some 22) (.tuple #[.int .i32 ((nextS (s.drop m)).1:Nat),.int .i64 ((nextS (s.drop m)).2:Nat)]) rfl hSn1 (fun w' hs=>by rfl) ?_
   simp only[Act.put,sA,sZ,sS]
   refine rg_t 10 (some 32) (.int .i32 ((nextS (s.drop m)).1:Nat)) rfl hSn1 (fun w' hs=>by first | rfl | go_simp) ?_
   simp only[Act.put,sA,sZ,sS]
   refine rg_t 11 (some 33) (.int .i64 ((nextS (s.drop m)).2:Nat)) rfl hSn1 (fun w' hs=>by first | rfl | go_simp) ?_
   simp only[Act.put,sA,sZ,sS]
   refine rg_t 12 (some 4) (.int .i32 ((nextS (s.drop m)).1:Nat)) rfl hSn1 (fun w' hs=>by rfl) ?_
   simp only[Act.put,sA,sZ,sS]
   refine rg_t 13 (some 5) (.int .i64 ((nextS (s.drop m)).2:Nat)) rfl hSn1 (fun w' hs=>by rfl) ?_
   simp only[Act.put,sA,sZ,sS]
   refine rg_done (by kernel_rfl) ?_
   obtain⟨w2,hw2⟩:∃w,wrn1=w:=⟨_,rfl⟩
   rw[hw2]at hSn1⊢
   replace HS:=Lh (And.intro (HS.out.1.ext (show Ext wz w2 from hSn1)) (HS.out.2.ext (show Ext wz w2 from hSn1)))
   clear c0 c1 hlt hSn hSn1 hBrn1 hw2
   obtain⟨r,hr⟩:∃r,(nextS (s.drop m)).1=r:=⟨_,rfl⟩
   obtain⟨n,hn⟩:∃n,(nextS (s.drop m)).2=n:=⟨_,rfl⟩
   rw[hr,hn]at HG HP⊢
   rw[hn]at hnl
   clear hr hn
   have HB:=Lh fun W=>Begins_any (r:Int) W
   have HO:=Lh fun W=>GoesOn_any (r:Int) W
   rw[beginsR_Z]at HB
   rw[goesR_Z]at HO
   obtain⟨b1,hb1⟩:∃b,beginsR r=b:=⟨_,rfl⟩
   obtain⟨b2,hb2⟩:∃b,goesR r=b:=⟨_,rfl⟩
   rw[hb1]at HB HG
   rw[hb2]at HO HG HP
   clear hb1 hb2
   have c1:=HS.out.1.c1
   by_cases hmi:m=i
   ·
    subst hmi
    cases b1 with
    | false=>exact absurd HG.out.2 (by simp;omega)
    | true=>
     cases b2 with
     | false=>exact absurd HG.out.2 (by simp;omega)
     | true=>
      have hee:((m:Int)==(m:Int))=true:=beq_self_eq_true _
      go_wp2_with fail
      refine(HB.out _).mono ?_
      rintro e w3 ⟨rfl,hE3⟩
      replace HS:=Lh (And.intro (HS.out.1.ext hE3) (HS.out.2.ext hE3))
      clear HB hE3 c1
      have c1:=HS.out.1.c1;have f1:=HS.out.1.f 1
      go_wp2_with fail
      refine(HO.out _).mono ?_
      rintro e w4 ⟨rfl,hE4⟩
      replace HS:=Lh (And.intro (HS.out.1.ext hE4) (HS.out.2.ext hE4))
      have hn0:=HP.out (by first | rfl | trivial)
      have HN:Hid (m+(n+nmL f false (s.drop (m+n)))=R):=Lh (by have h:=HG.out.2;simpa using h)
      clear c1
      have c1:=HS.out.1.c1;have f1:=HS.out.1.f 1
      have HT:=Lh (HS.out.1.put (m+n) (by omega))
      have HM:=Lh (show atQ s.length g w4=s.length - m by simp only[atQ,c1];rfl)
      have HE:=Lh (show atQ s.length g (w4.setCell ⟨g,1,none⟩ (.int .i64 (m+n:Nat)))=s.length - (m+n) by simp only[atQ,HT.out.1.c1];rfl)
      clear hE4 HO HP
      go_wp2_with fail
      go_roundw
      case rel=>exact⟨m+n,f,by omega,by omega,Lh ⟨by have:=HG.out.1;omega,by rw[decide_eq_false (by omega)];have:=HN.out;omega⟩,Lh ⟨HT.out.1,HS.out.2.trans HT.out.2⟩⟩
      case measure=>rw[HMZ.out];have h:=HE.out;first | (rw[h];omega) | (push_cast at h;rw[h];omega)
   ·
    have hee:((m:Int)==(i:Int))=false:=by rw[beq_eq_false_iff_ne];omega
    replace HG:=Lh (show s.length - m≤f+1∧m+(if !b2 then 0 else n+nmL f false (s.drop (m+n)))=R from⟨HG.out.1,by have h:=HG.out.2;rw[decide_eq_false hmi,Bool.false_and,Bool.false_or]at h;exact h⟩)
    go_wp2_with fail
    refine(HO.out _).mono ?_
    rintro e w4 ⟨rfl,hE4⟩
    replace HS:=Lh (And.intro (HS.out.1.ext hE4) (HS.out.2.ext hE4))
    cases b2 with
    | true=>
     have hn0:=HP.out (by first | rfl | trivial)
     have HN:Hid (m+(n+nmL f false (s.drop (m+n)))=R):=Lh (by have h:=HG.out.2;simpa using h)
     clear c1
     have c1:=HS.out.1.c1;have f1:=HS.out.1.f 1
     have HT:=Lh (HS.out.1.put (m+n) (by omega))
     have HM:=Lh (show atQ s.length g w4=s.length - m by simp only[atQ,c1];rfl)
     have HE:=Lh (show atQ s.length g (w4.setCell ⟨g,1,none⟩ (.int .i64 (m+n:Nat)))=s.length - (m+n) by simp only[atQ,HT.out.1.c1];rfl)
     clear hE4 HO HP HB
     go_wp2_with fail
     go_roundw
     case rel=>exact⟨m+n,f,by omega,by omega,Lh ⟨by have:=HG.out.1;omega,by rw[decide_eq_false (by omega)];have:=HN.out;omega⟩,Lh ⟨HT.out.1,HS.out.2.trans HT.out.2⟩⟩
     case measure=>rw[HMZ.out];have h:=HE.out;first | (rw[h];omega) | (push_cast at h;rw[h];omega)
    | false=>
     obtain rfl:m=R:=HG.out.2
     have HZ:=HS
     clear HS HG HP HB HO hE4 c1 hee
     obtain⟨wz,hwz⟩:∃wz,wz=w4:=⟨_,rfl⟩
     subst hwz
     have hmi:((m:Int)==(i:Int))=false:=by rw[beq_eq_false_iff_ne];omega
     have c0:=HZ.out.1.c0;have c1:=HZ.out.1.c1;have hlt:=HZ.out.1.lt
     have HCV:=Lh fun W' (hE:Ext wz W')=>HZ.out.1.conv hcap hbc i m (by omega) (by omega) (by omega) hE
     go_wp2_with fail
     refine rg_begin (S:=Sx wz) (by kernel_rfl) (Sx.begin _) ?_
     have hSt:Sx wz (World.drew wz):=(Sx.begin _)
     refine rg_t 0 (some 66) (.pointer (some ⟨g,0,none⟩)) rfl hSt (fun w' hs=>by rfl) ?_
     simp only[Act.put,sA,sZ,sS]
     refine rg_t 1 (some 67) (.pointer (some ⟨g,0,none⟩)) rfl hSt (fun w' hs=>by first | rfl | go_simp) ?_
     simp only[Act.put,sA,sZ,sS]
     refine rg_t 2 (some 68) (.pointer (some ⟨g,0,none⟩)) rfl hSt (fun w' hs=>by first | rfl | go_simp) ?_
     simp only[Act.put,sA,sZ,sS]
     refine rg_t 3 (some 69) (.slice (some ⟨bb,off,none⟩) s.length bc) rfl hSt (fun w' hs=>by(have h0:=hs.cell hlt c0;go_simp)) ?_
     simp only[Act.put,sA,sZ,sS]
     refine rg_t 4 (some 70) (.int .i64 (i:Nat)) rfl hSt (fun w' hs=>by rfl) ?_
     simp only[Act.put,sA,sZ,sS]
     refine rg_t 5 (some 71) (.pointer (some ⟨g,0,none⟩)) rfl hSt (fun w' hs=>by rfl) ?_
     simp only[Act.put,sA,sZ,sS]
     refine rg_t 6 (some 72) (.pointer (some ⟨g,0,none⟩)) rfl hSt (fun w' hs=>by first | rfl | go_simp) ?_
     simp only[Act.put,sA,sZ,sS]
     refine rg_t 7 (some 73) (.pointer (some ⟨g,1,none⟩)) rfl hSt (fun w' hs=>by first | rfl | go_simp) ?_
     simp only[Act.put,sA,sZ,sS]
     refine rg_t 8 (some 74) (.int .i64 (m:Nat)) rfl hSt (fun w' hs=>by(have h0:=hs.cell hlt c1;go_simp)) ?_
     simp only[Act.put,sA,sZ,sS]
     refine rg_t 9 (some 75) (.slice (some ⟨bb,off+i,none⟩) (m - i) (bc - i)) rfl hSt (fun w' hs=>by exact exec_bcut (i:=i) (j:=m) rfl rfl rfl rfl (by omega) (by omega) (by omega) _) ?_
     simp only[Act.put,sA,sZ,sS]
     refine rg_t 10 (some 76) (.string (bs ((s.drop i).take (m - i)))) rfl hSt (fun w' hs=>by exact exec_bconv rfl rfl (HCV.out w' hs)) ?_
     simp only[Act.put,sA,sZ,sS]
     refine rg_t 11 (some 2) (.string (bs ((s.drop i).take (m - i)))) rfl hSt (fun w' hs=>by rfl) ?_
     simp only[Act.put,sA,sZ,sS]
     refine rg_done (by kernel_rfl) ?_
     go_wp2_with fail
     go_ret
     have hE9:Ext wz (World.drew wz):=hSt
     exact⟨rfl,HZ.out.1.ext hE9,HZ.out.2.ext hE9⟩
  ·
   have hlI:decide ((m:Int)< (s.length:Int))=false:=decide_eq_false (by omega)
   obtain rfl:m=R:=by have h:=HI.out.2;rw[List.drop_of_length_le (by omega)]at h;cases f<;> simpa [nmL]using h
   go_wp2_with fail
   go_quiet (fail)
   obtain⟨wy,hwy⟩:∃w,wz.drewN nq=w:=⟨_,rfl⟩
   have hEy:Ext wz wy:=by rw[←hwy];exact(Ext.refl wz).drewN _
   rw[hwy]
   have HZ:=Lh (And.intro (HS.out.1.ext hEy) (HS.out.2.ext hEy))
   clear hwy hEy c0 c1 hlt hlI HS
   obtain⟨wz,hwz⟩:∃wz,wz=wy:=⟨_,rfl⟩
   subst hwz
   have hmi:((m:Int)==(i:Int))=false:=by rw[beq_eq_false_iff_ne];omega
   have c0:=HZ.out.1.c0;have c1:=HZ.out.1.c1;have hlt:=HZ.out.1.lt
   have HCV:=Lh fun W' (hE:Ext wz W')=>HZ.out.1.conv hcap hbc i m (by omega) (by omega) (by omega) hE
   go_wp2_with fail
   refine rg_begin (S:=Sx wz) (by kernel_rfl) (Sx.begin _) ?_
   have hSt:Sx wz (World.drew wz):=(Sx.begin _)
   refine rg_t 0 (some 66) (.pointer (some ⟨g,0,none⟩)) rfl hSt (fun w' hs=>by rfl) ?_
   simp only[Act.put,sA,sZ,sS]
   refine rg_t 1 (some 67) (.pointer (some ⟨g,0,none⟩)) rfl hSt (fun w' hs=>by first | rfl | go_simp) ?_
   simp only[Act.put,sA,sZ,sS]
   refine rg_t 2 (some 68) (.pointer (some ⟨g,0,none⟩)) rfl hSt (fun w' hs=>by first | rfl | go_simp) ?_
   simp only[Act.put,sA,sZ,sS]
   refine rg_t 3 (some 69) (.slice (some ⟨bb,off,none⟩) s.length bc) rfl hSt (fun w' hs=>by(have h0:=hs.cell hlt c0;go_simp)) ?_
   simp only[Act.put,sA,sZ,sS]
   refine rg_t 4 (some 70) (.int .i64 (i:Nat)) rfl hSt (fun w' hs=>by rfl) ?_
   simp only[Act.put,sA,sZ,sS]
   refine rg_t 5 (some 71) (.pointer (some ⟨g,0,none⟩)) rfl hSt (fun w' hs=>by rfl) ?_
   simp only[Act.put,sA,sZ,sS]
   refine rg_t 6 (some 72) (.pointer (some ⟨g,0,none⟩)) rfl hSt (fun w' hs=>by first | rfl | go_simp) ?_
   simp only[Act.put,sA,sZ,sS]
   refine rg_t 7 (some 73) (.pointer (some ⟨g,1,none⟩)) rfl hSt (fun w' hs=>by first | rfl | go_simp) ?_
   simp only[Act.put,sA,sZ,sS]
   refine rg_t 8 (some 74) (.int .i64 (m:Nat)) rfl hSt (fun w' hs=>by(have h0:=hs.cell hlt c1;go_simp)) ?_
   simp only[Act.put,sA,sZ,sS]
   refine rg_t 9 (some 75) (.slice (some ⟨bb,off+i,none⟩) (m - i) (bc - i)) rfl hSt (fun w' hs=>by exact exec_bcut (i:=i) (j:=m) rfl rfl rfl rfl (by omega) (by omega) (by omega) _) ?_
   simp only[Act.put,sA,sZ,sS]
   refine rg_t 10 (some 76) (.string (bs ((s.drop i).take (m - i)))) rfl hSt (fun w' hs=>by exact exec_bconv rfl rfl (HCV.out w' hs)) ?_
   simp only[Act.put,sA,sZ,sS]
   refine rg_t 11 (some 2) (.string (bs ((s.drop i).take (m - i)))) rfl hSt (fun w' hs=>by rfl) ?_
   simp only[Act.put,sA,sZ,sS]
   refine rg_done (by kernel_rfl) ?_
   go_wp2_with fail
   go_ret
   have hE9:Ext wz (World.drew wz):=hSt
   exact⟨rfl,HZ.out.1.ext hE9,HZ.out.2.ext hE9⟩
end
def plV (q c:UInt8):Bool:=c !=q && c !=60 && c !=38 && c !=9 && c !=10 && c !=13
theorem u8_ne {c:UInt8} {k:Nat} (hk:k< 256) (h:(c !=UInt8.ofNat k)=true):((c.toNat:Int)==(k:Int))=false:=by
 rw[beq_eq_false_iff_ne]
 intro e
 have e1:c.toNat=k:=by omega
 rw[bne_iff_ne]at h
 exact h (by rw[←e1,UInt8.ofNat_toNat])
section
variable {g:Nat} {W W':World} {s:Bytes} {i:Nat} {bv ov:Value}
theorem SB.exc (h:SB g W s i bv ov) (hX:Exc g W W') {j:Nat} {ov':Value} (hb:W'.heap[g]? =some (.cells #[bv,.int .i64 j,ov'] 122 (0,0))) (hj:j≤s.length):SB g W' s j bv ov':=
 ⟨hb,h.row.exc (fun b hb=>hb) hX,hj,h.hl,fun W2 h2=>h.tb W2 (hX.trans h2)⟩
theorem blk_app {w w5:World} {o o2:Obj} {row:Option Nat} (h:w.heap[g]? =some o) (hg:World.grownBy (w.alloc o2) w5 row) (hn:some g≠row):w5.heap[g]? =some o:=
 (hg.block g (Nat.lt_of_lt_of_le (blk_lt h) ((Ext.refl w).alloc o2).size) hn).trans ((Below.block ((Ext.refl w).alloc o2) g (blk_lt h)).trans h)
theorem Exc.app {g:Nat} {a w w5:World} {o2:Obj} {row:Option Nat} (h:Exc g a w) (hg:World.grownBy (w.alloc o2) w5 row) (hr:∀k,row=some k→a.heap.size≤k):Exc g a w5:=
 (h.ext ((Ext.refl w).alloc o2)).grown hg hr
theorem own_conv {base:Nat} {dv:Value} {L:Bytes} (h:W.ownsRow base 5 1 dv L.length (rowB L)):(convert 43 9 dv).run Tryz.prog W= .ok (.string (bs L)) W:=by
 rcases h.2 with⟨rfl,h0⟩ | ⟨b,cap,cur,rfl,hb,hg,h3⟩
 ·
  obtain rfl:L= []:=List.eq_nil_of_length_eq_zero h0
  exact run_convert_bytes_back (P:=Tryz.prog) W 43 9 5 ⟨0,0,none⟩ 0 [] Tryz.underlying43 Tryz.underlying5 Tryz.underlying9 (fun j hj=>absurd hj (Nat.not_lt_zero _)) |> fun _=>by go_simp;rfl
 ·
  exact run_convert_bytes_back (P:=Tryz.prog) W 43 9 5 ⟨b,0,none⟩ cap L Tryz.underlying43 Tryz.underlying5 Tryz.underlying9 (fun j hj=>h.cells (g:=b) rfl j _ (by simp[rowB,byI,hj]))
def refT:List (Bytes×UInt8):= [([97,109,112],38),([108,116],60),([103,116],62),([113,117,111,116],34),([35,49,51],13),([35,57],9),([35,49,48],10)]
inductive PcR (ok:UInt8→Bool):Bytes→Bytes→Prop
 | nil:PcR ok [] []
 | one (c:UInt8) (W v:Bytes) (h:ok c=true) (t:PcR ok W v):PcR ok (c::W) (c::v)
 | ref (nm:Bytes) (c:UInt8) (W v:Bytes) (h:(nm,c)∈refT) (t:PcR ok W v):PcR ok (38::(nm++59::W)) (c::v)
theorem PcR.app {ok:UInt8→Bool} {W v W2 v2:Bytes} (h:PcR ok W v) (h2:PcR ok W2 v2):PcR ok (W++W2) (v++v2):=by
 induction h with
 | nil=>exact h2
 | one c W v h t ih=>exact .one c _ _ h ih
 | ref nm c W v h t ih=>
  have:=PcR.ref (ok:=ok) nm c _ _ h ih
  simpa using this
theorem PcR.inv {ok:UInt8→Bool} {W v:Bytes} (h:PcR ok W v):(W= []∧v= [])∨(∃c W' v',W=c::W'∧v=c::v'∧ok c=true∧PcR ok W' v')∨∃nm c W' v',W=38::(nm++59::W')∧v=c::v'∧(nm,c)∈refT∧PcR ok W' v':=by
 cases h with
 | nil=>exact .inl ⟨rfl,rfl⟩
 | one c W v h t=>exact .inr (.inl ⟨c,W,v,rfl,rfl,h,t⟩)
 | ref nm c W v h t=>exact .inr (.inr ⟨nm,c,W,v,rfl,rfl,h,t⟩)
theorem plain_pc {ok:UInt8→Bool}:∀{v:Bytes},(∀c∈v,ok c=true)→PcR ok v v
 | [],_=> .nil
 | c::r,h=> .one c r r (h c (List.mem_cons_self ..)) (plain_pc fun x hx=>h x (List.mem_cons_of_mem _ hx))
theorem PcR.len {ok:UInt8→Bool} {W v:Bytes} (h:PcR ok W v):v.length≤W.length:=by
 induction h with
 | nil=>exact Nat.le_refl _
 | one c W v h t ih=>simp only[List.length_cons];omega
 | ref nm c W v h t ih=>simp only[List.length_cons,List.length_append];omega
theorem drop_lt {s:Bytes} {p:Nat} {c:UInt8} {r:Bytes} (h:s.drop p=c::r):p< s.length:=by
 have:=congrArg List.length h
 rw[List.length_drop,List.length_cons]at this
 omega
theorem drop_byte {s:Bytes} {p:Nat} {c:UInt8} {r:Bytes} (h:s.drop p=c::r):s[p]'(drop_lt h)=c:=by
 have h1:=List.drop_eq_getElem_cons (drop_lt h)
 rw[h]at h1
 injection h1 with h1 _
 exact h1.symm
theorem xrows_exc {w w':World} {base z n:Nat} {e:TypeId} {v:Value} {us:List Value} (h:w.ownsRow base e z v n us) (hX:Exc g w w') (hg:g< base):w'.ownsRow base e z v n us:=
 h.kept (row:=some g) ⟨hX.3.1,hX.3.2.1,hX.3.2.2,hX.1,fun i hi hne=>hX.2 i (fun e=>hne (by rw[e])) hi⟩ (by
  cases ho:v.ownBlock with
  | none=>exact .inl rfl
  | some k=>exact .inr fun e=>by have:=Option.some.inj e;have:=(h.lt k ho).1;omega)
end
end Go.Proofs.YtcfibjiikhnfhaaGreatDoor
