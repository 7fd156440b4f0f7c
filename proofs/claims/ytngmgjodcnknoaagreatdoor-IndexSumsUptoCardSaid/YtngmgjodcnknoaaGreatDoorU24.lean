/-
  The builder:merged. Helper lemmas;no statement of the seat is proved here.
-/
import Derived.Test.YtngmgjodcnknoaaGreatDoorU23
import Derived.RangeFuncNested
import Derived.RangeFuncBound
import Derived.RangeFuncCalls
import Derived.RangeFuncLeaves
import Derived.Shelf.Abstract
import Derived.Shelf.RegionOpen
import Derived.OwnWalkIn
import Derived.TacticsInMore
import Derived.LoopNIn
import Derived.LoopIn
import Derived.Test.YtngmgjodcnknoaaGreatDoorU21
namespace Go.Proofs.YtngmgjodcnknoaaGreatDoor
open Go.RowKit Go.Shelf
attribute [local go_sem] Oper.semAt_some
set_option maxHeartbeats 32000000
set_option maxRecDepth 100000
set_option linter.unusedVariables false
set_option linter.unusedSimpArgs false
theorem anode_at {w:World} {p:Nat→Prop} {a:Option Addr} {len cap:Nat} {l:List ANode} (h:Rep w p (.slice a len cap) (anodesD l)) (i:Nat) (hi:i< l.length):
    ∃b off x y z u,a=some ⟨b,off,none⟩∧b< w.heap.size∧p b∧w.cell? ⟨b,off+i*5,none⟩=some (.string (bs l[i].name))∧w.cell? ⟨b,off+i*5+1,none⟩=some x∧w.cell? ⟨b,off+i*5+2,none⟩=some y∧
      w.cell? ⟨b,off+i*5+3,none⟩=some z∧w.cell? ⟨b,off+i*5+4,none⟩=some u∧Rep w p x (strsD l[i].key)∧Rep w p y (spansD l[i].vers)∧Rep w p z (partsD l[i].parts)∧Rep w p u (anodesD l[i].kids):=by
  obtain⟨b,off,ha,hb,hp,hc⟩:=elem_at z_anode h kA i hi
  rw[anodeC_eq]at hc
  obtain⟨u,hu,hr⟩:=hc 0 _ rfl
  obtain⟨u1,hu1,hr1⟩:=hc 1 _ rfl
  obtain⟨u2,hu2,hr2⟩:=hc 2 _ rfl
  obtain⟨u3,hu3,hr3⟩:=hc 3 _ rfl
  obtain⟨u4,hu4,hr4⟩:=hc 4 _ rfl
  exact⟨b,off,u1,u2,u3,u4,ha,hb,hp,by rw[←hr.is];exact hu,hu1,hu2,hu3,hu4,hr1,hr2,hr3,hr4⟩
theorem act_name {F:Fence} {n:Nat} {P:Program} {c:Code} {Q:Exit→Act→World→Prop} {tm:Array Value} {d:List Deferred} {w:World} (h:∀A,A=tm→c.wpIn F n P Q {tmps:=A,defers:=d} w):c.wpIn F n P Q {tmps:=tm,defers:=d} w:=h tm rfl
mutual
def aszN:ANode→Nat
  | .mk _ _ _ _ ks=>1+aszL ks
def aszL:List ANode→Nat
  | []=>0
  | n::r=>aszN n+aszL r
end
theorem aszN_eq (n:ANode):aszN n=1+aszL n.kids:=by cases n;rw[aszN];rfl
theorem aszL_mem:∀(l:List ANode) (k:ANode),k∈l→aszN k≤aszL l
  | [],_,h=>by cases h
  | a::l,k,h=>by
    rw[aszL]
    rcases List.mem_cons.1 h with rfl | h
    · omega
    · have:=aszL_mem l k h;omega
def ownC:Option PRec→List Value
  | none=> [.slice none 0 0,.slice none 0 0,.slice none 0 0]
  | some r=> [r.x,r.y,r.z]
def lastPX {w0:World} {p:Nat→Prop} (v:Int) (pre:List (PX w0 p)):Option PRec:=(pre.reverse.find? fun r=>atP v r.1.pt).map (·.1)
theorem lastPX_snoc {w0:World} {p:Nat→Prop} (v:Int) (pre:List (PX w0 p)) (x:PX w0 p):lastPX v (pre++ [x])=if atP v x.1.pt=true then some x.1 else lastPX v pre:=by
  unfold lastPX
  rw[List.reverse_append,List.reverse_singleton,List.singleton_append,List.find?_cons]
  split<;> rename_i h
  · rw[if_pos h];rfl
  · rw[if_neg (by rw[h];decide)]
def InvM {w0:World} {p:Nat→Prop} (v:Int) (w9:World) (B8:Nat) (pre:List (PX w0 p)) (W:World):Prop:=
  W.heap[B8]? =some (.cells (ownC (lastPX v pre)).toArray 157 (0,0))∧(∀b,b< w9.heap.size→b≠B8→W.heap[b]? =w9.heap[b]?)∧w9.heap.size≤W.heap.size∧Ext w0 W
theorem blk_own {W W':World} {row:Option Nat} {k:Nat} {cs:Array Value} {t:TypeId} {fz:Nat×Nat} (h:W.heap[k]? =some (.cells cs t fz)) (hg:W.grownBy W' row) {B:Nat} (hr:∀r,row=some r→B≤r∧∃o:Obj,W.heap[r]? =some o∧o.isCells=false):W'.heap[k]? =some (.cells cs t fz):=
  (hg.block k (blk_lt h) fun e=>by
    obtain⟨_,o,ho,hc⟩:=hr k e.symm
    rw[h]at ho
    cases ho
    cases hc).trans h
theorem invM_own {w0:World} {p:Nat→Prop} {v:Int} {w9:World} {B8:Nat} (h0:w0.heap.size≤w9.heap.size):OwnFrom w9.heap.size (InvM (w0:=w0) (p:=p) v w9 B8):=fun s W W' row ⟨h1,h2,h3,h4⟩ hg hr=>
  ⟨blk_own h1 hg hr,fun b hb hne=>(hg.block b (Nat.lt_of_lt_of_le hb h3) fun e=>by have:=(hr b e.symm).1;omega).trans (h2 b hb hne),Nat.le_trans h3 hg.size,
   Below.grown h4 hg (Below.size h4) fun k hk=>Nat.le_trans h0 (hr k hk).1⟩
theorem invM_ext {w0:World} {p:Nat→Prop} {v:Int} {w9:World} {B8:Nat} {pre:List (PX w0 p)} {W W':World} (h:InvM v w9 B8 pre W) (hX:Ext W W'):InvM v w9 B8 pre W':=
  ⟨blk_ext h.1 hX,fun b hb hne=>(Below.block hX b (Nat.lt_of_lt_of_le hb h.2.2.1)).trans (h.2.1 b hb hne),Nat.le_trans h.2.2.1 hX.size,h.2.2.2.trans hX⟩
theorem kpx_put (x:Nat) (W:World) (l:Nat) (o o':Obj) (h:W.heap[l]? =some o) (hc:o.isCells=false):KpX x W (W.putObj l o'):=by
  have hg:=grownBy_putObj' W l o'
  refine⟨hg.size,fun k cs t fz _ e=>(hg.block k (blk_lt e) ?_).trans e⟩
  intro e2
  cases e2
  rw[h]at e
  cases e
  cases hc
theorem kpx_set (x:Nat) (W:World) (j:Nat) (u:Value):KpX x W (W.setCell ⟨x,j,none⟩ u):=
  ⟨by simp,fun k cs t fz hk e=>by rw[Below.heap_setCell _ _ _ _ hk];exact e⟩
theorem set3 {W:World} {b:Nat} {o0 o1 o2 x y z:Value} {t:TypeId} (h:W.heap[b]? =some (.cells [o0,o1,o2].toArray t (0,0))):(((W.setCell ⟨b,0,none⟩ x).setCell ⟨b,1,none⟩ y).setCell ⟨b,2,none⟩ z).heap[b]? =some (.cells [x,y,z].toArray t (0,0)):=by
  have h1:=heap_setCell_same' W b 0 _ _ x h
  have h2:=heap_setCell_same' _ b 1 _ _ y h1
  have h3:=heap_setCell_same' _ b 2 _ _ z h2
  simpa using h3
def noPanic (Q:Exit→Act→World→Prop):Exit→Act→World→Prop:=fun e a w=>match e with
  | .panic _=>False
  | e=>Q e a w
theorem wp_noPanic {P:Program} {c:Code} {Q:Exit→Act→World→Prop} {a:Act} {w:World} (h:c.wp P (noPanic Q) a w):c.wp P Q a w:=
  Code.wp_mono (fun e a w h=>by cases e<;> first | exact h | exact False.elim h) h
theorem BS.over {w0 W X:World} {g:Nat} {L:List QN} (h:BS w0 g W L) (hX:Ext w0 X) (hs:W.heap.size≤X.heap.size) (hb:∀b,b< W.heap.size→X.heap[b]? =W.heap[b]?):BS w0 g X L∧BK g W X:=by
  obtain⟨rv,dv,h1,h2,h3⟩:=h.row
  have hg:=blk_lt h1
  have h1X:=(hb g hg).trans h1
  refine⟨⟨hX,h.base,⟨rv,dv,h1X,?_,h3⟩,h.fl⟩,⟨hs,fun b hbl hf=>⟨hb b hbl,hf.1,fun d hd=> ?_⟩⟩⟩
  · obtain⟨e1,e2 | ⟨q,cap,cur,rfl,e3,e4,e5⟩⟩:=h2
    · exact⟨e1,.inl e2⟩
    · exact⟨e1,.inr ⟨q,cap,cur,rfl,e3,(hb q (blk_lt e4)).trans e4,e5⟩⟩
  · rw[blk_cell h1X (k:=1) rfl]at hd
    exact hf.2 d (by rw[blk_cell h1 (k:=1) rfl];exact hd)
theorem BS.above {w0 W X:World} {g:Nat} {L:List QN} (h:BS w0 g W L) (hb:∀b,b< W.heap.size→X.heap[b]? =W.heap[b]?) {b:Nat} (hle:W.heap.size≤b):Fb g X b:=by
  obtain⟨rv,dv,h1,h2,h3⟩:=h.row
  have hg:=blk_lt h1
  refine⟨by omega,fun d hd=> ?_⟩
  rw[blk_cell ((hb g hg).trans h1) (k:=1) rfl]at hd
  obtain rfl:=Option.some.inj hd
  intro e
  have:=(h2.lt _ e.symm).2
  omega
def Lv (g:Nat) (X:World) (bn bv b8 D:Nat) (A V O:Obj):Prop:=(X.heap[bn]? =some A∧Fb g X bn)∧(X.heap[bv]? =some V∧Fb g X bv)∧(X.heap[b8]? =some O∧Fb g X b8)∧(X.heap[D]? =some (.deferred (some []))∧Fb g X D)
theorem Lv.step {g:Nat} {X Y:World} {bn bv b8 D:Nat} {A V O:Obj} (h:Lv g X bn bv b8 D A V O) (k:BK g X Y):Lv g Y bn bv b8 D A V O:=by
  obtain⟨⟨a1,a2⟩,⟨b1,b2⟩,⟨c1,c2⟩,⟨d1,d2⟩⟩:=h
  have ka:=k.keep _ (blk_lt a1) a2
  have kb:=k.keep _ (blk_lt b1) b2
  have kc:=k.keep _ (blk_lt c1) c2
  have kd:=k.keep _ (blk_lt d1) d2
  exact⟨⟨ka.1.trans a1,ka.2⟩,⟨kb.1.trans b1,kb.2⟩,⟨kc.1.trans c1,kc.2⟩,⟨kd.1.trans d1,kd.2⟩⟩
theorem BS.turn {w0 X Y:World} {g D:Nat} {L:List QN} (h:BS w0 g X L) (hD:w0.heap.size≤D) (hF:Fb g X D) (hg:X.grownBy Y (some D)):BS w0 g Y L:=by
  obtain⟨rv,dv,h1,h2,h3⟩:=h.row
  have hne:some D≠dv.ownBlock:=hF.2 dv (blk_cell h1 (k:=1) rfl)
  refine⟨Below.grown h.ext hg (Below.size h.ext) fun k hk=>by cases hk;exact hD,h.base,⟨rv,dv,(hg.block g (blk_lt h1) fun e=>hF.1 (Option.some.inj e).symm).trans h1,h2.kept hg ?_,h3⟩,h.fl⟩
  exact .inr fun e=>hne e.symm
theorem BK.turn {W X Y:World} {g D:Nat} (k:BK g W X) (hD:W.heap.size≤D) (hgD:D≠g) (hl:g< X.heap.size) (hg:X.grownBy Y (some D)):BK g W Y:=
  ⟨Nat.le_trans k.size hg.size,fun b hb hf=>by
    obtain⟨k1,k2⟩:=k.keep b hb hf
    have hbX:=Nat.lt_of_lt_of_le hb k.size
    refine⟨(hg.block b hbX fun e=>by have:=Option.some.inj e;omega).trans k1,k2.1,fun d hd=>k2.2 d ?_⟩
    rw[←hd]
    exact(World.cell?_of_block (hg.block g hl fun e=>hgD (Option.some.inj e).symm)).symm⟩
theorem own_rep {w0:World} {p:Nat→Prop} (v:Int) (ps:List Part) (E:List (PX w0 p)) (hE:E.map (·.1.pt)=ps):∃x ya yc za zc,ownC (lastPX v E.reverse)= [x,.slice ya (partA v ps).length yc,.slice za (partK v ps).length zc]∧Rep w0 p (.slice ya (partA v ps).length yc) (attrsD (partA v ps))∧Rep w0 p (.slice za (partK v ps).length zc) (nodesD (partK v ps)):=by
  have hf:ps.find? (atP v)=(E.find? fun r=>atP v r.1.pt).map (·.1.pt):=by rw[←hE,List.find?_map];rfl
  unfold lastPX partA partK
  rw[List.reverse_reverse,hf]
  cases E.find? fun r=>atP v r.1.pt with
  | none=>exact⟨_,none,0,none,0,rfl,.nil 2,.nil 5⟩
  | some r=>
    obtain⟨⟨i,pt,x,y,z⟩,hok⟩:=r
    obtain⟨_,⟨ya,yc,hy⟩,⟨za,zc,hz⟩,_,hry,hrz⟩:=hok
    dsimp only at hy hz hry hrz
    subst hy hz
    exact⟨x,ya,yc,za,zc,rfl,hry,hrz⟩
theorem merged_any (v:Int):∀(N:Nat) (n:ANode) (w0 W:World) (g:Nat) (L:List QN) (p:Nat→Prop) (ka va pa ca:Option Addr) (kc vc pc cc:Nat) (a:Nat) (pp:Bytes),aszN n≤N→BS w0 g W L→a< L.length→PPat L a pp→(∀r∈rowsA v n pp,ok4 r)→
    L.length+(rowsA v n pp).length≤80000000→(rowsA v n pp).length≤99→Rep w0 p (.slice ka n.key.length kc) (strsD n.key)→Rep w0 p (.slice va n.vers.length vc) (spansD n.vers)→Rep w0 p (.slice pa n.parts.length pc) (partsD n.parts)→Rep w0 p (.slice ca n.kids.length cc) (anodesD n.kids)→
    Calls Tryz.prog 52 #[.pointer (some ⟨g,0,none⟩),.agg #[.string (bs n.name),.slice ka n.key.length kc,.slice va n.vers.length vc,.slice pa n.parts.length pc,.slice ca n.kids.length cc],.int .i64 v,.int .i64 a] W fun e w'=>e= .returned (.tuple #[])∧(∃M,BS w0 g w' (L++M)∧M.map k4=rowsA v n pp)∧BK g W w':=by
  intro N
  induction N with
  | zero=>intro n w0 W g L p ka va pa ca kc vc pc cc a pp hN;rw[aszN_eq]at hN;omega
  | succ N ih=>
    intro n w0 W g L p ka va pa ca kc vc pc cc a pp hN h ha hpp hok hL h98 hk hv hp hc
    obtain⟨E,hE1,hE2,hE3⟩:=part_recs hp
    have hEl:E.length=n.parts.length:=by rw[←hE1,List.length_map]
    have hpc:=hp.count z_part kA
    obtain⟨pa',pc',hpe,hpl1,hpl2⟩:=hpc
    cases hpe
    have HN:=Lh hN
    have HH:=Lh (And.intro h (And.intro ha (And.intro hpp (And.intro hok (And.intro hL h98)))))
    have HR:=Lh (And.intro hk (And.intro hv (And.intro hp hc)))
    have HE:=Lh (And.intro hE1 (And.intro hE2 (And.intro hE3 hEl)))
    have IH:=Lh ih
    obtain⟨wz,hwz⟩:∃W',((W.alloc (.cells #[.string (bs n.name),.slice ka n.key.length kc,.slice va n.vers.length vc,.slice pa n.parts.length pc,.slice ca n.kids.length cc] 32)).alloc (.cells #[.int .i64 v] 3)).alloc (.cells #[.slice none 0 0,.slice none 0 0,.slice none 0 0] 157)=W':=⟨_,rfl⟩
    have hEz:Ext W wz:=by rw[←hwz];exact(((Ext.refl W).alloc _).alloc _).alloc _
    have hzs:wz.heap.size=W.heap.size+3:=by rw[←hwz];simp
    have hbn:wz.heap[W.heap.size]? =some (.cells #[.string (bs n.name),.slice ka n.key.length kc,.slice va n.vers.length vc,.slice pa n.parts.length pc,.slice ca n.kids.length cc] 32 (0,0)):=by rw[←hwz];exact blk_ext (blk_new W _) (((Ext.refl _).alloc _).alloc _)
    have hbv:wz.heap[W.heap.size+1]? =some (.cells #[.int .i64 v] 3 (0,0)):=by
      have h:=blk_ext (blk_new (W.alloc (.cells #[.string (bs n.name),.slice ka n.key.length kc,.slice va n.vers.length vc,.slice pa n.parts.length pc,.slice ca n.kids.length cc] 32)) (.cells #[.int .i64 v] 3)) ((Ext.refl _).alloc (.cells #[.slice none 0 0,.slice none 0 0,.slice none 0 0] 157))
      rw[World.size_alloc,hwz]at h;exact h
    have hb8:wz.heap[W.heap.size+1+1]? =some (.cells #[.slice none 0 0,.slice none 0 0,.slice none 0 0] 157 (0,0)):=by
      have h:=blk_new ((W.alloc (.cells #[.string (bs n.name),.slice ka n.key.length kc,.slice va n.vers.length vc,.slice pa n.parts.length pc,.slice ca n.kids.length cc] 32)).alloc (.cells #[.int .i64 v] 3)) (.cells #[.slice none 0 0,.slice none 0 0,.slice none 0 0] 157)
      rw[World.size_alloc,World.size_alloc,hwz]at h;exact h
    have c3:wz.cell? ⟨W.heap.size,3,none⟩=some (.slice pa n.parts.length pc):=blk_cell hbn (k:=3) rfl
    have HBW:=Lh fun W=>bw_any pa n.parts.length pc W
    have HZ:=Lh (And.intro hEz (And.intro hzs (And.intro hbn (And.intro hbv hb8))))
    clear hN h ha hpp hok hL h98 hk hv hp hc hE1 hE2 hE3 hEl ih hEz hzs hbn hbv hb8
    refine(callsIn_wide (n:=4)).1 ?_
    refine callsIn_of_wp_marks Tryz.func52 rfl trivial ?_ rfl
    simp only[Tryz.ntmps52,List.size_toArray,List.length_cons,List.length_nil,Nat.reduceAdd,Nat.reduceSub,Array.replicate_succ,Array.replicate_zero,List.push_toArray,List.append_toArray,List.nil_append,List.cons_append]
    gi_wp2_with fail
    refine⟨trivial,(callsIn_wide.2 (HBW.out _)).mono ?_⟩
    rintro e w9 ⟨rfl,hbb,hE9⟩
    have HB9:=Lh (And.intro hbb hE9)
    clear HBW hbb hE9 c3 hwz
    gi_wp2_with fail
    have hE0z:Ext w0 wz:=HH.out.1.ext.trans HZ.out.1
    have hE09:Ext w0 w9:=hE0z.trans HB9.out.2
    have hzs:=HZ.out.2.1
    have hz9:=HB9.out.2.size
    have h0W:=HH.out.1.ext.size
    have h8:w9.heap[W.heap.size+1+1]? =some (.cells (ownC none).toArray 157 (0,0)):=blk_ext HZ.out.2.2.2.2 HB9.out.2
    have hv9:w9.heap[W.heap.size+1]? =some (.cells [.int .i64 v].toArray 3 (0,0)):=blk_ext HZ.out.2.2.2.1 HB9.out.2
    have hbb:w9.heap[wz.heap.size]? =some (.cells [.slice pa E.length pc].toArray 29 (0,0)):=by rw[HE.out.2.2.2];exact HB9.out.1
    refine act_name fun A hA=> ?_
    refine wpIn_rangeFunc_ownH rfl kD (gf:=124) (lb:= #[.pointer (some ⟨wz.heap.size,0,none⟩)]) (by rw[hA];rfl) trivial (enters_of Tryz.func124 kB rfl)
      (bw_stops 3 kA (W.heap.size+1+1) E pa pc wz.heap.size w9 hE09 (by rw[HE.out.2.2.2];omega) hbb HE.out.2.1 (fun h=>HE.out.2.2.1 (by rw[←HE.out.2.2.2];exact h)) kA kA) KpX.trans (fun W l o o' _ h hc _=>kpx_put _ W l o o' h hc) (Below.refl _ _) (fun _=>rfl)
      (InvM v w9 (W.heap.size+1+1)) (fun _ _ _=>False) (invM_own kA) (fun _=>fun _ _ _ _ h _ _=>h)
      ⟨h8,fun _ _ _=>rfl,Nat.le_refl _,hE09⟩
      (fun x a' X=>∃Bx,w9.heap.size≤Bx∧X.heap[Bx]? =some (.cells [x.1.x,x.1.y,x.1.z].toArray 157 (0,0))∧a'={tmps:=((A.setIfInBounds 17 (.int .i64 x.1.i)).setIfInBounds 18 (.agg #[x.1.x,x.1.y,x.1.z])).setIfInBounds 10 (.pointer (some ⟨Bx,0,none⟩)),defers:= []})
      (fun x a' _ X X' row ⟨Bx,hBx,h1,h3⟩ hg hr=>⟨Bx,hBx,blk_own h1 hg hr,h3⟩) ?assign ?body ?done ?stop
    case assign=>
      intro l pre x X K hI hK
      have HK:=Lh hK
      have HI:=Lh hI
      obtain⟨⟨xi,xp,xx,xy,xz⟩,hok⟩:=x
      obtain⟨xa,xc,hxx⟩:=hok.1
      obtain⟨ya,yc,hyy⟩:=hok.2.1
      obtain⟨za,zc,hzz⟩:=hok.2.2.1
      dsimp only at hxx hyy hzz
      subst hxx hyy hzz
      clear hK hI HN HH HR HE IH HZ HB9 hE0z hE09 hzs hz9 h0W h8 hv9 hbb
      subst hA
      unfold encPX
      dsimp only
      gi_wp2_with fail
      have hXX:Ext X (X.alloc (.cells #[.slice xa xp.vers.length xc,.slice ya xp.attrs.length yc,.slice za xp.kids.length zc] 157)):=(Ext.refl X).alloc _
      exact HK.out _ _ ((KeepsOthers.alloc _ _).from _) (KpX.ext hXX) (invM_ext HI.out hXX) ⟨X.heap.size,HI.out.2.2.1,blk_new X _,rfl⟩
    case body=>
      rintro l pre x a' X hl hr hI ⟨Bx,hBx,h1,rfl⟩ hlp
      obtain⟨hI1,hI2,hI3,hI4⟩:=hI
      have hbvX:X.heap[W.heap.size+1]? =some (.cells [.int .i64 v].toArray 3 (0,0)):=(hI2 _ (blk_lt hv9) kA).trans hv9
      have v0:=blk_cells hbvX 0 rfl
      obtain⟨⟨xi,xp,xx,xy,xz⟩,hok⟩:=x
      have HVH:=Lh fun Y (hY:Ext X Y)=>vhas_any xp.vers v p xx Y (hok.2.2.2.1.ext (hI4.trans hY))
      obtain⟨xa,xc,hxx⟩:=hok.1
      obtain⟨ya,yc,hyy⟩:=hok.2.1
      obtain⟨za,zc,hzz⟩:=hok.2.2.1
      dsimp only at hxx hyy hzz
      subst hxx hyy hzz
      dsimp only at h1
      have x0:=blk_cells h1 0 rfl;have x1:=blk_cells h1 1 rfl;have x2:=blk_cells h1 2 rfl
      have hBX:=blk_lt h1
      have HI:=Lh (And.intro hI1 (And.intro hI2 (And.intro hI3 (And.intro hI4 (And.intro h1 hBX)))))
      have hb8n:W.heap.size+1+1< w9.heap.size:=blk_lt h8
      clear hI1 hI2 hI3 hI4 h1 hbvX HN HH HR HE IH HZ HB9 hE0z hE09 hbb hv9
      subst hA
      simp only[List.setIfInBounds_toArray,List.set_cons_zero,List.set_cons_succ]
      gi_wp2_with fail
      refine⟨trivial,(CallsIn.inRound l (callsIn_wide.2 (HVH.out _ (Ext.refl _)))).mono ?_⟩
      rintro e X1 ⟨rfl,hX1⟩
      obtain⟨b,hbA⟩:∃b,ahas xp.vers v=b:=⟨_,rfl⟩
      rw[hbA]
      obtain⟨o0,o1,o2,ho⟩:∃o0 o1 o2,ownC (lastPX v pre)= [o0,o1,o2]:=by
        cases lastPX v pre with
        | none=>exact⟨_,_,_,rfl⟩
        | some r=>exact⟨_,_,_,rfl⟩
      have hI1:=HI.out.1
      rw[ho]at hI1
      have h81:=blk_ext hI1 hX1
      have y0:=hX1.keep hBX x0;have y1:=hX1.keep hBX x1;have y2:=hX1.keep hBX x2
      have e0:=blk_cells h81 0 rfl;have e1:=blk_cells h81 1 rfl;have e2:=blk_cells h81 2 rfl
      have f0:X1.frozen? ⟨W.heap.size+1+1,0,none⟩=false:=blk_free h81
      have f1:X1.frozen? ⟨W.heap.size+1+1,1,none⟩=false:=blk_free h81
      have f2:X1.frozen? ⟨W.heap.size+1+1,2,none⟩=false:=blk_free h81
      have HKO:=Lh (KeepsOthers.of_grownBy (ext_none hX1) (fun j o e=>by cases e))
      have HX1:=Lh (And.intro h81 (And.intro hX1 ho))
      clear hX1 h81 hI1 HVH x0 x1 x2 ho v0
      cases b with
      | false=>
        have HA:=Lh hbA
        clear hbA
        gi_wp2_with fail
        refine⟨HKO.out.from _,KpX.ext HX1.out.2.1,?_⟩
        have h:=invM_ext (p:=p) (w0:=w0) (v:=v) ⟨HI.out.1,HI.out.2.1,HI.out.2.2.1,HI.out.2.2.2.1⟩ HX1.out.2.1
        refine⟨?_,h.2⟩
        rw[lastPX_snoc,if_neg (by show¬ahas xp.vers v=true;rw[HA.out];decide)]
        exact h.1
      | true=>
        have HA:=Lh hbA
        clear hbA
        gi_wp2_with fail
        refine⟨(((HKO.out.trans (KeepsOthers.setCell _ _ _)).trans (KeepsOthers.setCell _ _ _)).trans (KeepsOthers.setCell _ _ _)).from _,(((KpX.ext HX1.out.2.1).trans (kpx_set _ _ _ _)).trans (kpx_set _ _ _ _)).trans (kpx_set _ _ _ _),?_,fun b hb hne=> ?_,?_,?_⟩
        · rw[lastPX_snoc,if_pos (show atP v xp=true from HA.out)]
          exact set3 HX1.out.1
        · rw[Below.heap_setCell _ _ _ _ hne,Below.heap_setCell _ _ _ _ hne,Below.heap_setCell _ _ _ _ hne]
          exact(Below.block HX1.out.2.1 b (by have:=HI.out.2.2.1;omega)).trans (HI.out.2.1 b hb hne)
        · have h1:=HI.out.2.2.1
          have h2:=HX1.out.2.1.size
          simp
          omega
        · have hle:w0.heap.size≤W.heap.size+1+1:=by omega
          exact(((HI.out.2.2.2.1.trans HX1.out.2.1).set (p:=⟨W.heap.size+1+1,0,none⟩) hle _).set (p:=⟨W.heap.size+1+1,1,none⟩) hle _).set (p:=⟨W.heap.size+1+1,2,none⟩) hle _
    case done=>
      rintro D ys X hD rfl hI hDK
      obtain⟨hI1,hI2,hI3,hI4⟩:=hI
      subst hA
      have hB8l:W.heap.size+1+1< w9.heap.size:=blk_lt h8
      have hoth:∀b,b< W.heap.size→X.heap[b]? =W.heap[b]? :=fun b hb=>(hI2 b kA kA).trans ((Below.block (HZ.out.1.trans HB9.out.2) b hb))
      obtain⟨hBX,hKX⟩:=HH.out.1.over hI4 kA hoth
      obtain⟨ox,ya,yc,za,zc,hown,hry,hrz⟩:=own_rep v n.parts E HE.out.1
      rw[hown]at hI1
      have hbn9:=blk_ext HZ.out.2.2.1 HB9.out.2
      have HLV:Hid (Lv g X W.heap.size (W.heap.size+1) (W.heap.size+1+1) D (.cells #[.string (bs n.name),.slice ka n.key.length kc,.slice va n.vers.length vc,.slice pa n.parts.length pc,.slice ca n.kids.length cc] 32 (0,0)) (.cells [.int .i64 v].toArray 3 (0,0)) (.cells [ox,.slice ya (partA v n.parts).length yc,.slice za (partK v n.parts).length zc].toArray 157 (0,0))):=Lh
        ⟨⟨(hI2 _ kA kA).trans hbn9,HH.out.1.above hoth kA⟩,⟨(hI2 _ kA kA).trans hv9,HH.out.1.above hoth kA⟩,⟨hI1,HH.out.1.above hoth kA⟩,⟨hDK,HH.out.1.above hoth kA⟩⟩
      have HBX:=Lh (And.intro hBX (And.intro hKX (And.intro hry hrz)))
      gi_wp2_with fail
      have hDW:W.heap.size≤D:=by omega
      clear hI1 hI2 hI3 hI4 hDK hoth hBX hKX hry hrz hbn9 hown hv9 h8 hbb hE0z hE09 HB9 HZ HE
      obtain⟨bn,hbn⟩:∃b,W.heap.size=b:=⟨_,rfl⟩
      obtain⟨bv,hbv⟩:∃b,W.heap.size+1=b:=⟨_,rfl⟩
      obtain⟨b8,hb8⟩:∃b,W.heap.size+1+1=b:=⟨_,rfl⟩
      obtain⟨LL,hLL⟩:∃l,L.length=l:=⟨_,rfl⟩
      obtain⟨EN,hEN⟩:∃e,endS ⟨n.name,n.key⟩=e:=⟨_,rfl⟩
      obtain⟨P,hP⟩:∃P,stepPath pp ⟨n.name,n.key⟩=P:=⟨_,rfl⟩
      have hPE:pp++([47]++EN)=P:=by rw[←hP,←hEN];rfl
      have hrows:=rowsA_eq v n pp
      rw[hP]at hrows
      obtain⟨hH1,hH2,hH3,hH4,hH5,hH6⟩:=HH.out
      have hPl:=(hH4 (1,n.name,[],P) (by rw[hrows];simp)).2.2
      have hENl:EN.length≤1000000000000:=by
        have:P.length≤1000000000000:=hPl
        rw[←hPE,List.length_append,List.length_append]at this
        omega
      have HST:=Lh fun Y (hY:Ext X Y)=>(show Calls Tryz.prog 86 #[.pointer (some ⟨g,0,none⟩),.string (bs n.name),.slice ka n.key.length kc] Y fun e w'=>e= .returned (.string (bs EN))∧Ext Y w' by
        rw[←hEN]
        exact vstep_any _ n.name n.key p _ Y (by rw[hEN];exact hENl) (HR.out.1.ext (HBX.out.1.ext.trans hY)))
      have HBL:=Lh fun Y (hY:Ext X Y)=>(below_any w0 Y g L a pp EN (HBX.out.1.step hY) kA kA hH3).mono (R':=fun e w'=>e= .returned (.string (bs P))∧Ext Y w') fun e w' h=>⟨by rw[h.1,hPE],by rw[h.2];exact Ext.refl _⟩
      have HEL:=Lh fun Y (hY:Ext X Y)=>(element_any w0 Y g L n.name (partA v n.parts) p _ a P (HBX.out.1.step hY) kA (by
          have:=congrArg List.length hrows
          simp only[List.length_append,List.length_cons]at this
          have e:(attrRows P (partA v n.parts)).length=(partA v n.parts).length:=List.length_map _
          omega) (fun r hr=>hH4 r (by rw[hrows];exact List.mem_append_left _ (List.mem_append_left _ hr))) HBX.out.2.2.1).mono
        (R':=fun e w'=>∃u,e= .returned u∧u= .int .i64 LL∧(∃M,BS w0 g w' (L++M)∧M.map k4=(1,n.name,[],P)::attrRows P (partA v n.parts))∧BK g X w') fun e w' h=>⟨_,h.1,by rw[hLL],h.2.1,(BK.ext HBX.out.1.lt hY).trans h.2.2⟩
      rw[hb8,hbv,hbn]at HLV
      rw[hb8,hbv,hbn]
      have hDW':=hbn ▸ hDW
      have n0:X.cell? ⟨bn,0,none⟩=some (.string (bs n.name)):=blk_cell HLV.out.1.1 (k:=0) rfl
      have n1:X.cell? ⟨bn,1,none⟩=some (.slice ka n.key.length kc):=blk_cell HLV.out.1.1 (k:=1) rfl
      have n4:X.cell? ⟨bn,4,none⟩=some (.slice ca n.kids.length cc):=blk_cell HLV.out.1.1 (k:=4) rfl
      have o1:X.cell? ⟨b8,1,none⟩=some (.slice ya (partA v n.parts).length yc):=blk_cell HLV.out.2.2.1.1 (k:=1) rfl
      have lbn:=blk_lt HLV.out.1.1
      have lb8:=blk_lt HLV.out.2.2.1.1
      have HROW:=Lh (And.intro hrows (And.intro hLL (And.intro hPl hDW)))
      clear hrows hLL hPl hPE hP hEN hENl hbn hbv hb8 hH1 hH2 hH3 hH4 hH5 hH6 hDW hDW' h0W hz9 hzs hB8l
      refine wpIn_wide.2 (wp_noPanic ?_)
      refine rg_cut (S:=Sx X) 15 kB kB kB kB (Sx.begin _) ?_
      have hSm:Sx X (World.drew X):=(Sx.begin _)
      refine gT 0 24 (.pointer (some ⟨g,0,none⟩)) hSm ?_
      simp only[Act.put,sA,sZ,sS]
      refine gT 1 25 (.pointer (some ⟨bn,0,none⟩)) hSm ?_
      simp only[Act.put,sA,sZ,sS]
      refine gT 2 26 (.string (bs n.name)) hSm ?_ (hv:=fun w' hs=>by(have h0:=hs.cell lbn n0;go_simp))
      simp only[Act.put,sA,sZ,sS]
      refine gT 3 27 (.pointer (some ⟨b8,1,none⟩)) hSm ?_
      simp only[Act.put,sA,sZ,sS]
      refine gT 4 28 (.slice ya (partA v n.parts).length yc) hSm ?_ (hv:=fun w' hs=>by(have h0:=hs.cell lb8 o1;go_simp))
      simp only[Act.put,sA,sZ,sS]
      refine gT 5 29 (.int .i64 a) hSm ?_
      simp only[Act.put,sA,sZ,sS]
      refine gT 6 30 (.pointer (some ⟨g,0,none⟩)) hSm ?_
      simp only[Act.put,sA,sZ,sS]
      refine gT 7 31 (.int .i64 a) hSm ?_
      simp only[Act.put,sA,sZ,sS]
      refine gT 8 32 (.pointer (some ⟨g,0,none⟩)) hSm ?_
      simp only[Act.put,sA,sZ,sS]
      refine gT 9 33 (.pointer (some ⟨bn,0,none⟩)) hSm ?_
      simp only[Act.put,sA,sZ,sS]
      refine gT 10 34 (.string (bs n.name)) hSm ?_ (hv:=fun w' hs=>by(have h0:=hs.cell lbn n0;go_simp))
      simp only[Act.put,sA,sZ,sS]
      refine gT 11 35 (.pointer (some ⟨bn,1,none⟩)) hSm ?_
      simp only[Act.put,sA,sZ,sS]
      refine gT 12 36 (.slice ka n.key.length kc) hSm ?_ (hv:=fun w' hs=>by(have h0:=hs.cell lbn n1;go_simp))
      simp only[Act.put,sA,sZ,sS]
      refine rg_call 13 (some 37) 86 #[.pointer (some ⟨g,0,none⟩),.string (bs n.name),.slice ka n.key.length kc] rfl rfl kB (by rfl) (fun w'=>by first | rfl | go_simp) (R:=fun v w'=>v= .string (bs EN)∧Ext (World.drew X) w') ?_ ?_
      · refine(HST.out (World.drew X) hSm).mono ?_
        rintro e w' ⟨rfl,h⟩
        exact⟨_,rfl,rfl,h⟩
      rintro _ wrm1 ⟨rfl,hBrm1⟩
      have hSm1:=hSm.ext hBrm1
      refine⟨hSm1,?_⟩
      simp only[Act.put,sA,sZ,sS]
      refine rg_call 14 (some 38) 85 #[.pointer (some ⟨g,0,none⟩),.int .i64 a,.string (bs EN)] rfl rfl kB (by rfl) (fun w'=>by first | rfl | go_simp) (R:=fun v w'=>v= .string (bs P)∧Ext wrm1 w') ?_ ?_
      · refine(HBL.out wrm1 hSm1).mono ?_
        rintro e w' ⟨rfl,h⟩
        exact⟨_,rfl,rfl,h⟩
      rintro _ wrm2 ⟨rfl,hBrm2⟩
      have hSm2:=hSm1.ext hBrm2
      refine⟨hSm2,?_⟩
      simp only[Act.put,sA,sZ,sS]
      refine rg_done kB ?_
      refine rg_go 2 #[true,true,true,true,true,true,true,true,true,true,true,true,true,true,true,false,false] kB kB fun m=> ?_
      refine rg_call 15 (some 39) 84 #[.pointer (some ⟨g,0,none⟩),.string (bs n.name),.slice ya (partA v n.parts).length yc,.int .i64 a,.string (bs P)] rfl rfl kB (by rfl) (fun w'=>by first | rfl | go_simp) (R:=fun u w'=>u= .int .i64 LL∧(∃M,BS w0 g w' (L++M)∧M.map k4=(1,n.name,[],P)::attrRows P (partA v n.parts))∧BK g X w') (HEL.out wrm2 hSm2) ?_
      rintro _ w9 ⟨rfl,hM9,hK9⟩
      refine⟨trivial,?_⟩
      simp only[Act.put,sA,sZ,sS]
      refine gT 16 11 (.int .i64 LL) trivial ?_
      simp only[Act.put,sA,sZ,sS]
      refine rg_done kB ?_
      simp only[noPanic,Exit.then]
      obtain⟨M,hBM,hMM⟩:=hM9
      have HLV9:=Lh (HLV.out.step hK9)
      have HK9:=Lh (HBX.out.2.1.trans hK9)
      have HIO:=Lh (And.intro HH.out.2.2.1 (And.intro HH.out.2.2.2.1 (And.intro HH.out.2.2.2.2.1 HH.out.2.2.2.2.2)))
      obtain⟨R,hRR⟩:∃R,rowsA v n pp=R:=⟨_,rfl⟩
      have hMl:M.length=1+(attrRows P (partA v n.parts)).length:=by
        have:=congrArg List.length hMM
        rw[List.length_map,List.length_cons]at this
        omega
      have hRl:R.length=M.length+(rowsC (partK v n.parts) P 0).length+(rowsAL v n.kids P).length:=by
        rw[←hRR,HROW.out.1,List.length_append,List.length_append,List.length_cons]
        omega
      have hLLl:=HROW.out.2.1
      have hLMl:(L++M).length=LL+M.length:=by rw[List.length_append,hLLl]
      have hio:=HIO.out
      rw[hRR]at hio
      have HCO:=Lh (vcontent_any (nszL (partK v n.parts)) (partK v n.parts) w0 w9 g (L++M) p (.slice za (partK v n.parts).length zc) LL P (fun k h=>nszL_le _ _ h) hBM kA
        (by rw[←hLLl];exact PPat.row (Nat.lt_of_le_of_lt (Nat.zero_le _) HH.out.2.1) hMM rfl HROW.out.2.2.1) (fun r hr=>hio.2.1 r (by rw[←hRR,HROW.out.1];exact List.mem_append_left _ (List.mem_append_right _ hr))) kA kA HBX.out.2.2.2)
      have c2:w9.cell? ⟨b8,2,none⟩=some (.slice za (partK v n.parts).length zc):=blk_cell HLV9.out.2.2.1.1 (k:=2) rfl
      have HM:=Lh (And.intro hMM (And.intro hRR (And.intro hMl (And.intro hRl hLMl))))
      clear hBM hMM hRR hMl hRl hLLl hLMl hio hK9 HST HBL HEL n0 n1 n4 o1 lbn lb8
      gi_wp2_with fail
      refine⟨trivial,(callsIn_wide.2 HCO.out).mono ?_⟩
      rintro e w10 ⟨rfl,⟨M2,hB2,hM2⟩,hK2⟩
      have HLV10:=Lh (HLV9.out.step hK2)
      have c4:w10.cell? ⟨bn,4,none⟩=some (.slice ca n.kids.length cc):=blk_cell HLV10.out.1.1 (k:=4) rfl
      have hkc:=HR.out.2.2.2.count z_anode kA
      obtain⟨_,_,hke,hkl1,hkl2⟩:=hkc
      cases hke
      obtain⟨OA,hOA⟩:∃o,Obj.cells #[.string (bs n.name),.slice ka n.key.length kc,.slice va n.vers.length vc,.slice pa n.parts.length pc,.slice ca n.kids.length cc] 32 (0,0)=o:=⟨_,rfl⟩
      rw[hOA]at HLV10
      clear hOA
      have H0:Hid (BS w0 g w10 (L++(M++M2))∧(M++M2).map k4++rowsAL v (n.kids.drop 0) P=R∧(∃T,(M++M2).map k4=(1,n.name,[],P)::T)∧BK g W w10∧Lv g w10 bn bv b8 D OA (.cells [.int .i64 v].toArray 3 (0,0)) (.cells [ox,.slice ya (partA v n.parts).length yc,.slice za (partK v n.parts).length zc].toArray 157 (0,0))):=Lh (by
        obtain⟨hMM,hRR,_⟩:=HM.out
        refine⟨by rw[←List.append_assoc];exact hB2,?_,⟨_,by rw[List.map_append,hMM,List.cons_append]⟩,HK9.out.trans hK2,HLV10.out⟩
        rw[←hRR,HROW.out.1,List.map_append,hMM,hM2];rfl)
      have HKK:=Lh HR.out.2.2.2
      clear hB2 hM2 hK2 HCO HLV10 HLV9 HK9 HLV HBX c2
      gi_wp2_with fail
      clear c4
      gi_loopw [13,48] (fun _ t wr=>∃(i:Nat) (M3:List QN),t= .int .i64 i∧i≤n.kids.length∧Hid (BS w0 g wr (L++M3)∧M3.map k4++rowsAL v (n.kids.drop i) P=R∧(∃T,M3.map k4=(1,n.name,[],P)::T)∧BK g W wr∧Lv g wr bn bv b8 D OA (.cells [.int .i64 v].toArray 3 (0,0)) (.cells [ox,.slice ya (partA v n.parts).length yc,.slice za (partK v n.parts).length zc].toArray 157 (0,0)))) (fun _ t _=>downV n.kids.length t)
      case atStart=>exact⟨0,_,rfl,Nat.zero_le _,H0⟩
      case round=>
        clear H0
        obtain⟨i,M3,rfl,hi,HI⟩:=hrel
        have hi0:=nZ0 i
        by_cases hlt:i< n.kids.length
        · have hlI:(i:Int)< (n.kids.length:Int):=by omega
          obtain⟨gk,okk,xk0,xv0,xp0,xc0,rfl,lgk,_,d0,d1,d2,d3,d4,rk,rv,rp,rc⟩:=anode_at HKK.out i hlt
          have hXr:=HI.out.1.ext
          have e0:=hXr.keep lgk d0
          have e1:=hXr.keep lgk d1
          have e2:=hXr.keep lgk d2
          have e3:=hXr.keep lgk d3
          have e4:=hXr.keep lgk d4
          have hsum:=HI.out.2.1
          rw[drop_one n.kids i hlt,rowsAL]at hsum
          have hasz:aszN n.kids[i]≤N:=by
            have h1:=HN.out
            rw[aszN_eq]at h1
            have:=aszL_mem n.kids n.kids[i] (List.getElem_mem hlt)
            omega
          obtain⟨x,hx⟩:∃x,n.kids[i]=x:=⟨_,rfl⟩
          rw[hx]at e0 rk rv rp rc hsum hasz
          obtain⟨xka,xkc,rfl,_,_⟩:=rk.count z_str kA
          obtain⟨xva,xvc,rfl,_,_⟩:=rv.count z_span kA
          obtain⟨xpa,xpc,rfl,_,_⟩:=rp.count z_part kA
          obtain⟨xca,xcc,rfl,_,_⟩:=rc.count z_anode kA
          obtain⟨wo,hwo⟩:∃wo,wo=wr:=⟨_,rfl⟩
          subst hwo
          obtain⟨wy,hwy⟩:∃W',wo.alloc (.cells #[.string (bs x.name),.slice xka x.key.length xkc,.slice xva x.vers.length xvc,.slice xpa x.parts.length xpc,.slice xca x.kids.length xcc] 32)=W':=⟨_,rfl⟩
          have hEy:Ext wo wy:=by rw[←hwy];exact(Ext.refl _).alloc _
          have hblk:wy.heap[wo.heap.size]? =some (.cells #[.string (bs x.name),.slice xka x.key.length xkc,.slice xva x.vers.length xvc,.slice xpa x.parts.length xpc,.slice xca x.kids.length xcc] 32 (0,0)):=by rw[←hwy];exact blk_new wo _
          have hFb:Fb g wy wo.heap.size:=by rw[←hwy];exact HI.out.1.fresh
          obtain⟨T,hT⟩:∃T,rowsAL v (n.kids.drop (i+1)) P=T:=⟨_,rfl⟩
          rw[hT]at hsum
          have HBy:Hid (BS w0 g wy (L++M3)∧BK g W wy∧Lv g wy bn bv b8 D OA (.cells [.int .i64 v].toArray 3 (0,0)) (.cells [ox,.slice ya (partA v n.parts).length yc,.slice za (partK v n.parts).length zc].toArray 157 (0,0))):=Lh (by
            have hk:=BK.ext HI.out.1.lt hEy
            exact⟨HI.out.1.step hEy,HI.out.2.2.2.1.trans hk,HI.out.2.2.2.2.step hk⟩)
          have x2:wy.cell? ⟨wo.heap.size,2,none⟩=some (.slice xva x.vers.length xvc):=blk_cell hblk (k:=2) rfl
          have v0:wy.cell? ⟨bv,0,none⟩=some (.int .i64 v):=blk_cells HBy.out.2.2.2.1.1 0 rfl
          have HVH:=Lh (vhas_any x.vers v p _ wy (rv.ext HBy.out.1.ext))
          have HX:=Lh (And.intro rk (And.intro rv (And.intro rp rc)))
          have HS:=Lh (And.intro hsum (And.intro hT (And.intro hasz (And.intro hblk hFb))))
          clear d0 d1 d2 d3 d4 rk rv rp rc hsum hasz hx hT hXr hEy hblk hFb lgk
          gi_wp2_with fail
          refine⟨trivial,(callsIn_wide.2 HVH.out).mono ?_⟩
          rintro e w2 ⟨rfl,hX2⟩
          have hk2:=BK.ext HBy.out.1.lt hX2
          have HB2:=Lh (And.intro (HBy.out.1.step hX2) (And.intro (HBy.out.2.1.trans hk2) (HBy.out.2.2.step hk2)))
          have hb2:w2.heap[wo.heap.size]? =some (.cells #[.string (bs x.name),.slice xka x.key.length xkc,.slice xva x.vers.length xvc,.slice xpa x.parts.length xpc,.slice xca x.kids.length xcc] 32 (0,0)):=blk_ext HS.out.2.2.2.1 hX2
          obtain⟨b,hb⟩:∃b,ahas x.vers v=b:=⟨_,rfl⟩
          rw[hb]
          have HA:=Lh hb
          clear hwy x2 v0 e0 e1 e2 e3 e4 hX2 hk2 HBy HVH hb
          cases b with
          | false=>
            have HF:Hid (BS w0 g w2 (L++M3)∧M3.map k4++rowsAL v (n.kids.drop (i+1)) P=R∧(∃T,M3.map k4=(1,n.name,[],P)::T)∧BK g W w2∧Lv g w2 bn bv b8 D OA (.cells [.int .i64 v].toArray 3 (0,0)) (.cells [ox,.slice ya (partA v n.parts).length yc,.slice za (partK v n.parts).length zc].toArray 157 (0,0))):=Lh (by
              have h1:=HS.out.1
              rw[HA.out,if_neg kD,List.nil_append,←HS.out.2.1]at h1
              exact⟨HB2.out.1,h1,HI.out.2.2.1,HB2.out.2⟩)
            clear hb2 HB2 HI
            gi_wp2_with fail
            go_roundw
            case rel=>exact⟨i+1,M3,by go_num,by omega,HF⟩
            case measure=>exact mZ
          | true=>
            have hsum:=HS.out.1
            rw[HA.out,if_pos rfl]at hsum
            have hlen:=congrArg List.length hsum
            rw[List.length_append,List.length_append,List.length_map]at hlen
            obtain⟨T0,hT0⟩:=HI.out.2.2.1
            have hLLl:=HROW.out.2.1
            have hLM:(L++M3).length=LL+M3.length:=by rw[List.length_append,hLLl]
            have hM3:0< M3.length:=by
              have:=congrArg List.length hT0
              rw[List.length_map,List.length_cons]at this
              omega
            have hio:=HIO.out
            rw[HM.out.2.1]at hio
            have HME:=Lh (IH.out x w0 w2 g (L++M3) p xka xva xpa xca xkc xvc xpc xcc LL P HS.out.2.2.1 HB2.out.1 kA (by rw[←hLLl];exact PPat.row (Nat.lt_of_le_of_lt (Nat.zero_le _) HH.out.2.1) hT0 rfl HROW.out.2.2.1)
              (fun r hr=>hio.2.1 r (by rw[←hsum];exact List.mem_append_right _ (List.mem_append_left _ hr))) kA kA HX.out.1 HX.out.2.1 HX.out.2.2.1 HX.out.2.2.2)
            have v2:w2.cell? ⟨bv,0,none⟩=some (.int .i64 v):=blk_cells HB2.out.2.2.2.1.1 0 rfl
            have y0:=blk_cell hb2 (k:=0) rfl;have y1:=blk_cell hb2 (k:=1) rfl;have y2:=blk_cell hb2 (k:=2) rfl;have y3:=blk_cell hb2 (k:=3) rfl;have y4:=blk_cell hb2 (k:=4) rfl
            have HSUM:=Lh hsum
            have HT0:=Lh hT0
            clear hsum hlen hT0 hLLl hLM hM3 hio hb2
            gi_wp2_with fail
            refine⟨trivial,(callsIn_wide.2 HME.out).mono ?_⟩
            rintro e w3 ⟨rfl,⟨M4,hB4,hM4⟩,hK4⟩
            have HF:Hid (BS w0 g w3 (L++(M3++M4))∧(M3++M4).map k4++rowsAL v (n.kids.drop (i+1)) P=R∧(∃T,(M3++M4).map k4=(1,n.name,[],P)::T)∧BK g W w3∧Lv g w3 bn bv b8 D OA (.cells [.int .i64 v].toArray 3 (0,0)) (.cells [ox,.slice ya (partA v n.parts).length yc,.slice za (partK v n.parts).length zc].toArray 157 (0,0))):=Lh (by
              refine⟨by rw[←List.append_assoc];exact hB4,?_,⟨_,by rw[List.map_append,HT0.out,List.cons_append]⟩,HB2.out.2.1.trans hK4,HB2.out.2.2.step hK4⟩
              rw[HS.out.2.1,←HSUM.out,List.map_append,hM4,List.append_assoc])
            clear hB4 hM4 hK4 HB2 HI HME y0 y1 y2 y3 y4 v2
            gi_wp2_with fail
            go_roundw
            case rel=>exact⟨i+1,_,by go_num,by omega,HF⟩
            case measure=>exact mZ
        · have hlI:¬(i:Int)< (n.kids.length:Int):=by omega
          have hF:=HI.out
          rw[List.drop_of_length_le kA,rowsAL,List.append_nil]at hF
          have hLLl:=HROW.out.2.1
          have hLM:(L++M3).length=LL+M3.length:=by rw[List.length_append,hLLl]
          have hM3:M3.length=R.length:=by rw[←hF.2.1,List.length_map]
          have hio:=HIO.out
          rw[HM.out.2.1]at hio
          have hMl:=HM.out.2.2.1
          have hRl:=HM.out.2.2.2.1
          have hal:LL< (L++M3).length:=by omega
          have HSH:=Lh (shut_any w0 wr g (L++M3) LL hF.1 hal kA)
          have HF:=Lh hF
          have HAL:=Lh hLLl
          clear hF hLLl hLM hM3 hio hMl hRl HI
          gi_wp2_with fail
          refine⟨trivial,(callsIn_wide.2 HSH.out).mono ?_⟩
          rintro e w3 ⟨rfl,hB3,hK3⟩
          have HFF:Hid (∃M',BS w0 g w3 (L++M')∧M'.map k4=R∧BK g W w3∧w3.heap[D]? =some (.deferred (some []))∧Fb g w3 D):=Lh (by
            obtain⟨M',h1,h2⟩:=set_rows L M3 LL ((L++M3).length:Nat) (by have:=HAL.out;omega) hal
            exact⟨M',by rw[←h1];exact hB3,by rw[h2,HF.out.2.1],HF.out.2.2.2.1.trans hK3,(HF.out.2.2.2.2.step hK3).2.2.2⟩)
          clear hB3 hK3 HSH HF hal
          gi_wp2_with fail
          obtain⟨M',hB',hM',hK',hD',hF'⟩:=HFF.out
          have hgr:=grownBy_putObj' w3 D (.deferred none)
          have hDW:=HROW.out.2.2.2
          refine⟨by simp,.inl ⟨_,_,rfl,run_takeDeferred hD',?_⟩⟩
          exact⟨_,results_none rfl _ _ _,rfl,⟨M',hB'.turn (Nat.le_trans HH.out.1.ext.size hDW) hF' hgr,by rw[hM',HM.out.2.1]⟩,hK'.turn hDW hF'.1 hB'.lt hgr⟩
    case stop=>
      rintro D c pre X hD hpre hI hDK
      exact hI.elim
attribute [local go_sem] Oper.semAt_some
theorem rows_low {w:World} {base base' z n:Nat} {e:TypeId} {v:Value} {us:List Value} (h:w.ownsRow base e z v n us) (hb:base'≤base):w.ownsRow base' e z v n us:=by
 refine⟨h.1,?_⟩
 rcases h.2 with h2 | ⟨g,cap,cur,e1,e2,e3⟩
 ·
  exact .inl h2
 ·
  exact .inr ⟨g,cap,cur,e1,Nat.le_trans hb e2,e3⟩
theorem vat_any (v last:Int) (n:ANode) (p:Nat→Prop) (ra:Option Addr) (rn rc:Nat) (ka va pa ca:Option Addr) (kc vc pc cc:Nat) (w:World) (h1:1≤v) (h2:v≤last) (hv:ahas n.vers v=true) (hok:∀r∈rowsA v n [],ok4 r) (h98:(rowsA v n []).length≤99)
  (hk:Rep w p (.slice ka n.key.length kc) (strsD n.key)) (hvs:Rep w p (.slice va n.vers.length vc) (spansD n.vers)) (hp:Rep w p (.slice pa n.parts.length pc) (partsD n.parts)) (hc:Rep w p (.slice ca n.kids.length cc) (anodesD n.kids)):
  Calls Tryz.prog 26 #[.slice ra rn rc,.agg #[.int .i64 last,.string (bs n.name),.slice ka n.key.length kc,.slice va n.vers.length vc,.slice pa n.parts.length pc,.slice ca n.kids.length cc],.int .i64 v] w fun e w'=>(∃(rv:Value) (M:List QN),e= .returned (.tuple #[rv,.nilIface])∧w'.ownsRow w.heap.size 81 6 rv M.length (M.flatMap qnV)∧M.map k4=(6,[],[],[47])::rowsA v n []∧∀q∈M,qF q)∧Ext w w':=by
 have hv1:¬v< 1:=by omega
 have hv2:¬last< v:=by omega
 obtain⟨wz,hwz⟩:∃W',w.alloc (.cells #[.int .i64 last,.string (bs n.name),.slice ka n.key.length kc,.slice va n.vers.length vc,.slice pa n.parts.length pc,.slice ca n.kids.length cc] 34)=W':=⟨_,rfl⟩
 have hE:Ext w wz:=by rw[←hwz];exact(Ext.refl _).alloc _
 have hb:wz.heap[w.heap.size]? =some (.cells #[.int .i64 last,.string (bs n.name),.slice ka n.key.length kc,.slice va n.vers.length vc,.slice pa n.parts.length pc,.slice ca n.kids.length cc] 34 (0,0)):=by rw[←hwz];exact blk_new w _
 have c0:=blk_cell hb (k:=0) rfl;have c3:=blk_cell hb (k:=3) rfl
 have HH:=Lh fun Y (hY:Ext w Y)=>vhas_any n.vers v p _ Y (hvs.ext hY)
 rw[hv]at HH
 have HR:=Lh (And.intro hk (And.intro hvs (And.intro hp hc)))
 have HO:=Lh (And.intro hok (And.intro hE hb))
 clear hv hok hk hvs hp hc hb h1 h2
 go_enter Tryz.func26,Tryz.ntmps26
 go_wp2_with fail
 refine(HH.out _ hE).mono ?_
 rintro e w1 ⟨rfl,hX1⟩
 have HNB:=Lh (newb_any (.slice ra rn rc) w1 ra rn rc rfl)
 have hE1:Ext w w1:=hE.trans hX1
 have HE1:=Lh (And.intro hE1 hX1)
 clear HH hwz hE hX1 hE1 c0 c3
 go_wp2_with fail
 refine HNB.out.mono ?_
 rintro e w2 ⟨⟨g,rfl,hB2,_⟩,hX2⟩
 have hb2:w2.heap[w.heap.size]? =some (.cells #[.int .i64 last,.string (bs n.name),.slice ka n.key.length kc,.slice va n.vers.length vc,.slice pa n.parts.length pc,.slice ca n.kids.length cc] 34 (0,0)):=blk_ext (blk_ext HO.out.2.2 HE1.out.2) hX2
 have HME:=Lh (show Calls Tryz.prog 52 #[.pointer (some ⟨g,0,none⟩),.agg #[.string (bs n.name),.slice ka n.key.length kc,.slice va n.vers.length vc,.slice pa n.parts.length pc,.slice ca n.kids.length cc],.int .i64 v,.int .i64 0] w2 _ from
  merged_any v (aszN n) n w1 w2 g [⟨6,[],[], -1,0,[47]⟩] p ka va pa ca kc vc pc cc 0 [] (Nat.le_refl _) hB2 kD ⟨by decide,fun _=>rfl,fun h=>absurd rfl h⟩ HO.out.1 (by simp only[List.length_cons,List.length_nil];omega) h98
   (HR.out.1.ext HE1.out.1) (HR.out.2.1.ext HE1.out.1) (HR.out.2.2.1.ext HE1.out.1) (HR.out.2.2.2.ext HE1.out.1))
 have d1:=blk_cell hb2 (k:=1) rfl;have d2:=blk_cell hb2 (k:=2) rfl;have d3:=blk_cell hb2 (k:=3) rfl;have d4:=blk_cell hb2 (k:=4) rfl;have d5:=blk_cell hb2 (k:=5) rfl
 clear hB2 hX2 hb2 HNB
 go_wp2_with fail
 refine HME.out.mono ?_
 rintro e w3 ⟨rfl,⟨M,hB3,hM⟩,hK3⟩
 have hlt:0< ([(⟨6,[],[], -1,0,[47]⟩:QN)]++M).length:=by simp
 have hMl:M.length=(rowsA v n []).length:=by rw[←hM,List.length_map]
 have HSH:=Lh (show Calls Tryz.prog 53 #[.pointer (some ⟨g,0,none⟩),.int .i64 0] w3 _ from shut_any w1 w3 g _ 0 hB3 hlt (by rw[List.length_append,List.length_cons,List.length_nil];omega))
 have HM:=Lh hM
 clear hB3 hM hK3 hMl HME d1 d2 d3 d4 d5
 go_wp2_with fail
 refine HSH.out.mono ?_
 rintro e w4 ⟨rfl,hB4,hK4⟩
 obtain⟨M',hs1,hs2⟩:=set_rows [] ([(⟨6,[],[], -1,0,[47]⟩:QN)]++M) 0 (([(⟨6,[],[], -1,0,[47]⟩:QN)]++M).length:Nat) (Nat.le_refl _) hlt
 have hB5:BS w1 g w4 M':=by
  have h:=hB4
  simp only[List.nil_append]at hs1
  rw[←hs1];exact h
 obtain⟨rv,dv,r1,r2,r3⟩:=hB5.row
 have k1:=blk_cell r1 (k:=1) rfl
 obtain⟨da,dc,rfl⟩:=own_slice r2
 have HF:Hid (w4.ownsRow w.heap.size 81 6 (.slice da M'.length dc) M'.length (M'.flatMap qnV)∧M'.map k4=(6,[],[],[47])::rowsA v n []∧(∀q∈M',qF q)∧Ext w w4):=Lh ⟨rows_low r2 HE1.out.1.size,by rw[hs2,List.map_append,HM.out];rfl,hB5.fl,HE1.out.1.trans hB5.ext⟩
 clear hB4 hK4 hs1 hs2 hB5 r1 r2 r3 HSH hlt
 replace k1:w4.cell? ⟨g,1,none⟩=some (.slice da M'.length dc):=k1
 go_wp2_with fail
 go_ret2
 exact⟨⟨_,M',rfl,HF.out.1,HF.out.2.1,HF.out.2.2.1⟩,HF.out.2.2.2⟩
open Go.RowKit
theorem rescape_any (s:Bytes) (hs:(pescS s).length≤1000000000000) (w:World):Calls Tryz.prog 149 #[.string (bs s)] w fun e w'=>e= .returned (.string (bs (pescS s)))∧w'=w:=by
 have hsl:s.length≤1000000000000:=Nat.le_trans (pescS_ge s) hs
 go_enter Tryz.func149,Tryz.ntmps149
 go_wp2_with fail
 go_loopw [3,4] (fun o t wr=>∃i:Nat,t= .int .i64 i∧i≤s.length∧o= .string (bs (pescS (s.take i)))∧wr=w) (fun _ t _=>downV s.length t)
 case atStart=>exact⟨0,rfl,Nat.zero_le _,rfl,rfl⟩
 case round=>
  obtain⟨i,rfl,hi,rfl,rfl⟩:=hrel
  have hi0:=nZ0 i
  obtain⟨L,hL⟩:∃L,pescS (s.take i)=L:=⟨_,rfl⟩
  have hLl:L.length≤1000000000000:=by rw[←hL];exact Nat.le_trans (pescS_take s i) hs
  rw[hL]
  by_cases hlt:i< s.length
  ·
   have hlI:(i:Int)< (s.length:Int):=by omega
   have hib:i< (bs s).size:=by rw[bs_size];exact hlt
   obtain⟨c,hc⟩:∃c,(bs s)[i]=c:=⟨_,rfl⟩
   have hcs:s[i]=c:=hc
   have hN:pescS (s.take (i+1))=L++(if specB c=true then [92,c]else [c]):=by rw[List.take_succ_eq_append_getElem hlt,pescS_snoc,hL];exact congrArg (fun c=>L++(if specB c=true then [92,c]else [c])) hcs
   have hx:(bs s).extract i (i+1)=bs [c]:=by
    rw[bs_extract]
    have:(s.drop i).take (i+1 - i)= [c]:=by
     rw[drop_one s i hlt]
     have e:i+1 - i=1:=by omega
     rw[e]
     show [s[i]]= [c]
     rw[hcs]
    rw[this]
   have hxs:i+1≤(bs s).size:=by omega
   have g1:¬9223372036854775807< (bs L).size+1:=by rw[bs_size];omega
   have g2:¬9223372036854775807< (bs (L++ [92])).size+1:=by rw[bs_size,List.length_append];simp;omega
   have k1:(bs [c]).size=1:=by rw[bs_size];rfl
   have c1:bs L++(⟨#[92]⟩:ByteArray)=bs (L++ [92]):=by rw[←bs_append];rfl
   have c2:bs (L++ [92])++bs [c]=bs (L++ [92,c]):=by rw[bs_append,List.append_assoc];rfl
   have c3:bs L++bs [c]=bs (L++ [c]):=by rw[bs_append]
   cases hsp:specB c with
   | true=>
    rw[hsp,if_pos rfl]at hN
    have HN:=Lh hN
    have h5:c=92∨c=123∨c=125∨c=44∨c=47:=of_decide_eq_true hsp
    clear hN hcs hL hsp
    obtain rfl | rfl | rfl | rfl | rfl:=h5
    all_goals
     go_wp2_with fail
     exact⟨⟨i+1,by go_num,by omega,by rw[HN.out],trivial⟩,by simp only[downV];omega⟩
   | false=>
    rw[hsp,if_neg kD]at hN
    have HN:=Lh hN
    have h5:¬(c=92∨c=123∨c=125∨c=44∨c=47):=of_decide_eq_false hsp
    have hq:∀k:UInt8,c≠k→((c.toNat:Int)==(k.toNat:Int))=false:=fun k hk=>by
     rw[beq_eq_false_iff_ne]
     intro e
     exact hk (UInt8.toNat_inj.1 kA)
    have q1:((c.toNat:Int)==92)=false:=hq 92 fun e=>h5 (.inl e)
    have q2:((c.toNat:Int)==123)=false:=hq 123 fun e=>h5 (.inr (.inl e))
    have q3:((c.toNat:Int)==125)=false:=hq 125 fun e=>h5 (.inr (.inr (.inl e)))
    have q4:((c.toNat:Int)==44)=false:=hq 44 fun e=>h5 (.inr (.inr (.inr (.inl e))))
    have q5:((c.toNat:Int)==47)=false:=hq 47 fun e=>h5 (.inr (.inr (.inr (.inr e))))
    clear hN hcs hL hsp h5 hq
    go_wp2_with fail
    exact⟨⟨i+1,by go_num,by omega,by rw[HN.out],trivial⟩,by simp only[downV];omega⟩
  ·
   have hlI:¬(i:Int)< (s.length:Int):=by omega
   have hie:s.take i=s:=List.take_of_length_le kA
   rw[hie]at hL
   have HL:=Lh hL
   clear hL hie
   go_wp2_with fail
   go_ret
   exact⟨by rw[HL.out];rfl,rfl⟩
theorem join_snoc (l:List Bytes) (x:Bytes):Lib.join (l++ [x]) [44]=if l= []then x else Lib.join l [44]++([44]++x):=by
 induction l with
 | nil=>simp[Lib.join,List.intercalate]
 | cons a l ih=>
  cases l with
  | nil=>simp[Lib.join,List.intercalate]
  | cons b r=>
   have e:∀m:List Bytes,Lib.join (a::b::m) [44]=a++([44]++Lib.join (b::m) [44]):=fun m=>rfl
   rw[if_neg kI]at ih⊢
   show Lib.join (a::b::(r++ [x])) [44]=_
   rw[e,e]
   show a++([44]++Lib.join ((b::r)++ [x]) [44])=_
   rw[ih]
   simp only[List.append_assoc]
theorem rjoin_any (l:List Bytes) (p:Nat→Prop) (v:Value) (w:World) (hj:(Lib.join l [44]).length≤1000000000000) (h:Rep w p v (strsD l)):
  Calls Tryz.prog 150 #[v,.string ⟨#[44]⟩] w fun e w'=>e= .returned (.string (bs (Lib.join l [44])))∧w'=w:=by
 obtain⟨ka,kc,rfl,hk1,hk2⟩:=h.count z_str kA
 have HM:Hid (∀x∈l,x.length≤1000000000000):=Lh fun x hx=>Nat.le_trans (join_mem l x hx) hj
 have HJ0:=Lh hj
 clear hj
 go_enter Tryz.func150,Tryz.ntmps150
 go_wp2_with fail
 go_loopw [5,6] (fun o t wr=>∃i:Nat,t= .int .i64 i∧i≤l.length∧o= .string (bs (Lib.join (l.take i) [44]))∧wr=w) (fun _ t _=>downV l.length t)
 case atStart=>exact⟨0,rfl,Nat.zero_le _,rfl,rfl⟩
 case round=>
  obtain⟨i,rfl,hi,rfl,rfl⟩:=hrel
  have hi0:=nZ0 i
  obtain⟨J,hJ⟩:∃J,Lib.join (l.take i) [44]=J:=⟨_,rfl⟩
  have hJl:J.length≤1000000000000:=by rw[←hJ];exact Nat.le_trans (join_take l i) HJ0.out
  rw[hJ]
  by_cases hlt:i< l.length
  ·
   have hlI:(i:Int)< (l.length:Int):=by omega
   obtain⟨g,o,rfl,lg,_,x0⟩:=str_at h i hlt
   have hxl:=HM.out _ (List.getElem_mem hlt)
   have hT:Lib.join (l.take (i+1)) [44]=if l.take i= []then l[i]else J++([44]++l[i]):=by rw[List.take_succ_eq_append_getElem hlt,join_snoc,hJ]
   obtain⟨x,hx⟩:∃x,l[i]=x:=⟨_,rfl⟩
   rw[hx]at x0 hxl hT
   have g1:¬9223372036854775807< (bs J).size+1:=by rw[bs_size];omega
   have g2:¬9223372036854775807< (bs (J++ [44])).size+(bs x).size:=by rw[bs_size,bs_size,List.length_append];simp;omega
   have g3:¬9223372036854775807< (bs J).size+(bs x).size:=by rw[bs_size,bs_size];omega
   have c1:bs J++(⟨#[44]⟩:ByteArray)=bs (J++ [44]):=by rw[←bs_append];rfl
   have c2:bs (J++ [44])++bs x=bs (J++([44]++x)):=by rw[bs_append,List.append_assoc]
   by_cases h0:i=0
   ·
    subst h0
    rw[Nat.add_zero]at x0
    have hJ0:J= []:=by rw[←hJ];rfl
    rw[if_pos kI]at hT
    have c3:bs J++bs x=bs x:=by rw[hJ0,bs_append];rfl
    have HT:=Lh hT
    clear hT hJ hJ0 hx
    go_wp2_with fail
    exact⟨⟨1,by go_num,by omega,by rw[HT.out],trivial⟩,by simp only[downV];omega⟩
   ·
    have hpI:(0:Int)< (i:Int):=by omega
    rw[if_neg (by intro e;have:=congrArg List.length e;rw[List.length_take,List.length_nil]at this;omega)]at hT
    have HT:=Lh hT
    clear hT hJ hx
    go_wp2_with fail
    exact⟨⟨i+1,by go_num,by omega,by rw[HT.out];rfl,trivial⟩,by simp only[downV];omega⟩
  ·
   have hlI:¬(i:Int)< (l.length:Int):=by omega
   have hie:l.take i=l:=List.take_of_length_le kA
   rw[hie]at hJ
   have HJ:=Lh hJ
   clear hJ hie
   go_wp2_with fail
   go_ret
   exact⟨by rw[HJ.out];rfl,rfl⟩
end Go.Proofs.YtngmgjodcnknoaaGreatDoor
