/- Part of the proof. -/
import Derived.Test.YtbhnjkegkadodaaGreatDoorG22
import Derived.Test.YtbhnjkegkadodaaGreatDoorG24
set_option linter.all false
set_option maxRecDepth 100000
set_option maxHeartbeats 8000000
namespace Go.Proofs.YtbhnjkegkadodaaGreatDoor
open Go Go.RowKit Go.Proofs Gl
def Deleted (base:Nat) (e:TypeId) (size:Nat) (w:World) (g n c:Nat) (ys:List Value) (en:Ending) (w':World):Prop:=
 en=.returned (.slice (some ⟨g,0,none⟩) (n-1) c)/\w'.ownsRow base e size (.slice (some ⟨g,0,none⟩) (n-1) c) (n-1) ys/\Upd (fun b=>b=g) w w'
theorem zero182 (w:World):(zeroValue 182).run Tryz.prog w=.ok (.agg #[.slice none 0 0,.slice none 0 0]) w:=by
 obtain⟨i0,hi0,hz0,_,_⟩:=info_parts info182
 simp[zeroValue,typeInfo,hi0,hz0]
theorem zs2:∀(zs:List Value),(∀u ∈ ([.slice none 0 0,.slice none 0 0]:List Value),u.oneCell'=true):=fun _ u hu=>by
 simp only[List.mem_cons,List.not_mem_nil,or_false]at hu;rcases hu with rfl|rfl<;>rfl
theorem own_cell {w:World} {base:Nat} {e:TypeId} {size g n c:Nat} {xs:List Value} (h:w.ownsRow base e size (.slice (some ⟨g,0,none⟩) n c) n xs) {j:Nat} {u:Value} (hj:xs[j]?=some u):w.cell? ⟨g,j,none⟩=some u:=by
 obtain⟨hl,⟨e1,_⟩|⟨g',c',cur,e1,hb,hh,hnc,hm,hs,ht⟩⟩:=h
 · cases e1
 cases e1
 have hjl:=(List.getElem?_eq_some_iff.1 hj).1
 refine zaa hh j u ?_
 rw[<-ht,List.getElem?_take]at hj
 rw[hl]at hjl
 rw[if_pos hjl,Array.getElem?_toList]at hj
 exact hj
theorem del182 {w:World} {base g n c i:Nat} {xs:List Value} (hown:w.ownsRow base 182 2 (.slice (some ⟨g,0,none⟩) n c) n xs) (h1:∀v ∈ xs,v.oneCell'=true) (hi:i<n) (hbig:n<=1048576):
 Calls Tryz.prog 208 #[.slice (some ⟨g,0,none⟩) n c,.int .i64 (i:Int),.int .i64 ((i:Int)+1)] w (Deleted base 182 2 w g n c (xs.take (i*2) ++ xs.drop ((i+1)*2))):=by
 obtain⟨i0,hi0,hz0,hz1,hz2⟩:=info_parts info182
 have hsl:=Sl.of_own hown
 have hmx:n<=c/\c<=maxLen:=⟨hsl.le,hsl.max⟩
 have hmx2:c<=9223372036854775807:=by have:=hmx.2;unfold maxLen at this;omega
 have hxl:xs.length=n*2:=hown.1
 have hdel:=ownsRow_del hown hi (zs:=[.slice none 0 0,.slice none 0 0]) rfl
 obtain⟨news,hnews⟩:∃news,news=xs.drop ((i+1)*2):=⟨_,rfl⟩
 have hnl:news.length=(n-(i+1))*2:=by rw[hnews,List.length_drop,hxl,Nat.sub_mul]
 rw[<-hnews]at hdel
 obtain⟨A,hA,hsrc⟩:∃A:Addr,(if c=i+1 then some (⟨g,0,none⟩:Addr) else some ⟨g,(i+1)*2,none⟩)=some A/\Hid (∀t u,news[t]?=some u->w.drew.cell? (A.add t)=some u):=by
  by_cases h:c=i+1
  · refine⟨⟨g,0,none⟩,by simp[h],fun t u hu=>?_⟩
    have:=(List.getElem?_eq_some_iff.1 hu).1
    rw[hnl,show n-(i+1)=0 by omega]at this;omega
  · refine⟨⟨g,(i+1)*2,none⟩,by simp[h],fun t u hu=>?_⟩
    rw[hnews,List.getElem?_drop]at hu
    have h2:=own_cell hown hu
    rw[Addr.add_lit];exact h2
 have s1:Hid (news.length=(n-(i+1))*2):=zqH hnl
 have s2:Hid (∀u ∈ news,u.oneCell'=true):=zqH (fun u hu=>h1 u (List.mem_of_mem_drop (hnews▸hu)))
 obtain⟨hl0,⟨e1,_⟩|⟨g',c',cur,e1,hb,hh,hnc,hm,hs,ht⟩⟩:=id hown
 · cases e1
 cases e1
 have s3:Hid (∀t,t<news.length → (w.drew.cell? ⟨g,0+i*2+t,none⟩).isSome=true/\w.drew.frozen? ⟨g,0+i*2+t,none⟩=false):=zqH (fun t ht'=>by
   rw[hnl]at ht'
   have hlt:0+i*2+t<cur.size:=by rw[hs];omega
   refine⟨?_,zac (w:=w) hh _⟩
   show(w.cell? ⟨g,0+i*2+t,none⟩).isSome=true
   rw[zaa hh _ _ (Array.getElem?_eq_getElem hlt)];rfl)
 obtain⟨W1,hW1⟩:∃W1,W1=w.drew.setCells g (0+i*2) news:=⟨_,rfl⟩
 have hh1:W1.heap[g]?=some (.cells (Ex.splice cur (0+i*2) news) 182 (0,0)):=by
   rw[hW1,zaz (w:=w.drew) _ _ hh,Ex.withObj_heap w.drew g _ g (show g<w.drew.heap.size from(zqA.1 hh).1),if_pos rfl]
 have hsz1:(Ex.splice cur (0+i*2) news).size=c*2:=by rw[Ex.splice_size,hs]
 have hcl:∀ty,(Builtin.clear_ #[251] ty #[.slice (some ⟨g,(i+(n-(i+1)))*2,none⟩) (n-(i+(n-(i+1)))) (c-(i+(n-(i+1))))]).run Tryz.prog W1=.ok (.tuple #[]) (W1.setCells g ((i+(n-(i+1)))*2) [.slice none 0 0,.slice none 0 0]):=fun ty=>by
   rw[show n-(i+(n-(i+1)))=1 by omega]
   refine run_clear_one W1 251 182 ty (.agg #[.slice none 0 0,.slice none 0 0]) [.slice none 0 0,.slice none 0 0] Tryz.underlying251 zero182 (by simp[Builtin.zeroCells,Value.cells,List.range,List.range.loop]) (zs2 []) g _ _ (fun j hj=>?_) (fun j hj=>zac hh1 _)
   simp only[List.length_cons,List.length_nil]at hj
   rw[zaa hh1 _ _ (Array.getElem?_eq_getElem (by rw[hsz1];omega))];rfl
 have hu1:Upd (fun b=>b=g) w W1:=by rw[hW1];exact(Upd.refl _ w).drew.trans (Upd.setCells (S:=fun b=>b=g) rfl _ _ _)
 have hend:(W1.setCells g ((i+(n-(i+1)))*2) [.slice none 0 0,.slice none 0 0]).ownsRow base 182 2 (.slice (some ⟨g,0,none⟩) (n-1) c) (n-1) (xs.take (i*2) ++ news)/\Upd (fun b=>b=g) w (W1.setCells g ((i+(n-(i+1)))*2) [.slice none 0 0,.slice none 0 0]):=by
   have h2:=ownsRow_del (w:=w.drew) (zae hown (fun b hb hl=>rfl)) hi (zs:=[.slice none 0 0,.slice none 0 0]) rfl
   rw[<-hnews,show i*2=0+i*2 by omega,<-hW1,show(n-1)*2=(i+(n-(i+1)))*2 by omega,show 0+i*2=i*2 by omega]at h2
   exact⟨h2,hu1.trans (Upd.setCells (S:=fun b=>b=g) rfl _ _ _)⟩
 have hW:=zqH hW1;have HEND:=zqH hend
 have hic:i<=c:=by omega
 have hjc:i+1<=c:=by omega
 have hb1:(0:Int)<=(i:Int)+1:=by omega
 have hb2:(i:Int)+1<=(n:Int):=by omega
 have hne:((i:Int) == (i:Int)+1)=false:=by rw[beq_eq_false_iff_ne];omega
 have hnews':Hid (news=xs.drop ((i+1)*2)):=zqH hnews
 rw[<-hnews]
 clear hW1 hh1 hh hb hnc hm hs ht hl0 hown hsl hxl hdel hnews hnl hu1 hend hsz1 h1
 go_enter Tryz.func208,Tryz.ntmps208
 go_wp2_with fail
 go_region_law (refine step_append_room rfl (.tmp 22) (.tmp 25) 251 rfl 182 i0 2 Tryz.underlying251 hi0 hz1 g 0 i c (by simp[Act.eval,Act.put]) A (n-(i+1)) (c-(i+1)) news (by simp[Act.eval,Act.put]) s1.out hsrc.out s2.out (by omega) s3.out ?_;rw[<-hW.out])
 all_goals go_wp2
 all_goals go_ret
 all_goals
   obtain⟨he1,he2⟩:=HEND.out
   exact⟨by rw[show n-1=i+(n-(i+1)) by omega];rfl,he1,he2⟩
theorem zero251 (w:World):(zeroValue 251).run Tryz.prog w=.ok (.slice none 0 0) w:=by
 obtain⟨i0,hi0,hz0,_,_⟩:=info_parts info251
 simp[zeroValue,typeInfo,hi0,hz0]
theorem del251 {w:World} {base g n c i:Nat} {xs:List Value} (hown:w.ownsRow base 251 1 (.slice (some ⟨g,0,none⟩) n c) n xs) (h1:∀v ∈ xs,v.oneCell'=true) (hi:i<n) (hbig:n<=1048576):
 Calls Tryz.prog 209 #[.slice (some ⟨g,0,none⟩) n c,.int .i64 (i:Int),.int .i64 ((i:Int)+1)] w (Deleted base 251 1 w g n c (xs.take (i) ++ xs.drop ((i+1)))):=by
 obtain⟨i0,hi0,hz0,hz1,hz2⟩:=info_parts info251
 have hsl:=Sl.of_own hown
 have hmx:n<=c/\c<=maxLen:=⟨hsl.le,hsl.max⟩
 have hmx2:c<=9223372036854775807:=by have:=hmx.2;unfold maxLen at this;omega
 have hxl:xs.length=n:=by simpa using hown.1
 have hdel:True:=trivial
 obtain⟨news,hnews⟩:∃news,news=xs.drop ((i+1)):=⟨_,rfl⟩
 have hnl:news.length=(n-(i+1)):=by rw[hnews,List.length_drop,hxl]
 obtain⟨A,hA,hsrc⟩:∃A:Addr,(if c=i+1 then some (⟨g,0,none⟩:Addr) else some ⟨g,(i+1),none⟩)=some A/\Hid (∀t u,news[t]?=some u->w.drew.cell? (A.add t)=some u):=by
  by_cases h:c=i+1
  · refine⟨⟨g,0,none⟩,by simp[h],fun t u hu=>?_⟩
    have:=(List.getElem?_eq_some_iff.1 hu).1
    rw[hnl,show n-(i+1)=0 by omega]at this;omega
  · refine⟨⟨g,(i+1),none⟩,by simp[h],fun t u hu=>?_⟩
    rw[hnews,List.getElem?_drop]at hu
    have h2:=own_cell hown hu
    rw[Addr.add_lit];exact h2
 have s1:Hid (news.length=(n-(i+1))*1):=zqH (by rw[Nat.mul_one];exact hnl)
 have s2:Hid (∀u ∈ news,u.oneCell'=true):=zqH (fun u hu=>h1 u (List.mem_of_mem_drop (hnews▸hu)))
 obtain⟨hl0,⟨e1,_⟩|⟨g',c',cur,e1,hb,hh,hnc,hm,hs,ht⟩⟩:=id hown
 · cases e1
 cases e1
 have s3:Hid (∀t,t<news.length → (w.drew.cell? ⟨g,0+i*1+t,none⟩).isSome=true/\w.drew.frozen? ⟨g,0+i*1+t,none⟩=false):=zqH (fun t ht'=>by
   rw[hnl]at ht'
   have hlt:0+i*1+t<cur.size:=by rw[hs];omega
   refine⟨?_,zac (w:=w) hh _⟩
   show(w.cell? ⟨g,0+i*1+t,none⟩).isSome=true
   rw[zaa hh _ _ (Array.getElem?_eq_getElem hlt)];rfl)
 obtain⟨W1,hW1⟩:∃W1,W1=w.drew.setCells g (0+i*1) news:=⟨_,rfl⟩
 have hh1:W1.heap[g]?=some (.cells (Ex.splice cur (0+i*1) news) 251 (0,0)):=by
   rw[hW1,zaz (w:=w.drew) _ _ hh,Ex.withObj_heap w.drew g _ g (show g<w.drew.heap.size from(zqA.1 hh).1),if_pos rfl]
 have hsz1:(Ex.splice cur (0+i*1) news).size=c:=by rw[Ex.splice_size,hs,Nat.mul_one]
 have hcl:∀ty,(Builtin.clear_ #[170] ty #[.slice (some ⟨g,(i+(n-(i+1))),none⟩) (n-(i+(n-(i+1)))) (c-(i+(n-(i+1))))]).run Tryz.prog W1=.ok (.tuple #[]) (W1.setCells g ((i+(n-(i+1)))) [.slice none 0 0]):=fun ty=>by
   rw[show n-(i+(n-(i+1)))=1 by omega]
   refine run_clear_one W1 170 251 ty (.slice none 0 0) [.slice none 0 0] Tryz.underlying170 zero251 (by simp[Builtin.zeroCells,Value.cells,List.range,List.range.loop]) (fun u hu=>by simp only[List.mem_cons,List.not_mem_nil,or_false]at hu;rcases hu with rfl;rfl) g _ _ (fun j hj=>?_) (fun j hj=>zac hh1 _)
   simp only[List.length_cons,List.length_nil]at hj
   rw[zaa hh1 _ _ (Array.getElem?_eq_getElem (by rw[hsz1];omega))];rfl
 have hu1:Upd (fun b=>b=g) w W1:=by rw[hW1];exact(Upd.refl _ w).drew.trans (Upd.setCells (S:=fun b=>b=g) rfl _ _ _)
 have hend:(W1.setCells g ((i+(n-(i+1)))) [.slice none 0 0]).ownsRow base 251 1 (.slice (some ⟨g,0,none⟩) (n-1) c) (n-1) (xs.take (i) ++ news)/\Upd (fun b=>b=g) w (W1.setCells g ((i+(n-(i+1)))) [.slice none 0 0]):=by
   have h2:=ownsRow_del (w:=w.drew) (zae hown (fun b hb hl=>rfl)) hi (zs:=[.slice none 0 0]) rfl
   simp only[Nat.mul_one]at h2
   rw[show i+(n-(i+1))=n-1 by omega,hW1,show 0+i*1=i by omega]
   rw[<-hnews]at h2
   exact⟨h2,(by rw[hW1,show 0+i*1=i by omega]at hu1;exact hu1:Upd (fun b=>b=g) w (w.drew.setCells g i news)).trans (Upd.setCells (S:=fun b=>b=g) rfl _ _ _)⟩
 have hW:=zqH hW1;have HEND:=zqH hend
 have hic:i<=c:=by omega
 have hjc:i+1<=c:=by omega
 have hb1:(0:Int)<=(i:Int)+1:=by omega
 have hb2:(i:Int)+1<=(n:Int):=by omega
 have hne:((i:Int) == (i:Int)+1)=false:=by rw[beq_eq_false_iff_ne];omega
 have hnews':Hid (news=xs.drop ((i+1))):=zqH hnews
 rw[<-hnews]
 clear hW1 hh1 hh hb hnc hm hs ht hl0 hown hsl hxl hdel hnews hnl hu1 hend hsz1 h1
 go_enter Tryz.func209,Tryz.ntmps209
 go_wp2_with fail
 go_region_law (refine step_append_room rfl (.tmp 22) (.tmp 25) 170 rfl 251 i0 1 Tryz.underlying170 hi0 hz1 g 0 i c (by simp[Act.eval,Act.put]) A (n-(i+1)) (c-(i+1)) news (by simp[Act.eval,Act.put]) s1.out hsrc.out s2.out (by omega) s3.out ?_;rw[<-hW.out])
 all_goals go_wp2
 all_goals go_ret
 all_goals
   obtain⟨he1,he2⟩:=HEND.out
   exact⟨by rw[show n-1=i+(n-(i+1)) by omega];rfl,he1,he2⟩
theorem grow_c {w:World} {m:Nat} (h0:0<m) (hbig:m<=1048576):
 Calls Tryz.prog 272 #[.slice none 0 0,.int .i64 (m:Int)] w fun e w'=>∃cp,e=.returned (.slice (some ⟨w.heap.size,0,none⟩) 0 cp)/\m<=cp/\w'.ownsRow w.heap.size 182 2 (.slice (some ⟨w.heap.size,0,none⟩) 0 cp) 0 []/\New w w':=by
 obtain⟨i0,hi0,hz0,hz1,hz2⟩:=info_parts info182
 have hfirst:(Builtin.firstCells i0.size 0 (.slice none 0 0)).run Tryz.prog w.drew=.ok ([]:List Value).toArray w.drew:=run_firstCells_none w.drew i0.size 0 0 0
 have hrz:∀ty,(Builtin.append_ #[251,3] ty #[.slice none 0 0,.int .i64 (m:Int)]).run Tryz.prog w=.ok (.slice (some ⟨w.heap.size,0,none⟩) m (grownCap w m 0 182)) (w.drew.alloc (.cells (([]:List Value).toArray ++ Builtin.zeroCells (Value.agg #[.slice none 0 0,.slice none 0 0]).cells m ++ Builtin.zeroCells (Value.agg #[.slice none 0 0,.slice none 0 0]).cells (grownCap w m 0 182-m)) 182)):=fun ty=>by
  have h:=Lib.run_append_grow_zeros w 251 3 ty 182 i0 _ .i64 .i64 Tryz.underlying251 Tryz.underlying3 hi0 hz0 none 0 0 [] hfirst m h0 (by omega) (by omega) (by omega) (by rw[hz2];omega) (by rw[hz2,Nat.zero_add];exact growslice_fits (by omega) (by omega))
  rw[Nat.zero_add]at h
  exact h
 have hG:=grownCap_ge w m 0 182
 have hG2:=grownCap_le_maxLen w m 0 182 (by unfold maxLen;omega)
 obtain⟨G,hGe⟩:∃G,G=grownCap w m 0 182:=⟨_,rfl⟩
 rw[<-hGe]at hrz hG hG2
 clear hGe hfirst
 have hG3:=hG2
 unfold maxLen at hG3
 have h1:((m:Int)<0)=False:=by simp
 have hzl:∀k,(Builtin.zeroCells (Value.agg #[.slice none 0 0,.slice none 0 0]).cells k).size=k*2:=fun k=>by
  simp[Builtin.zeroCells,Value.cells]
 obtain⟨ROW,hROW⟩:∃ROW:Array Value,ROW=([]:List Value).toArray ++ Builtin.zeroCells (Value.agg #[.slice none 0 0,.slice none 0 0]).cells m ++ Builtin.zeroCells (Value.agg #[.slice none 0 0,.slice none 0 0]).cells (G-m):=⟨_,rfl⟩
 have hRs:ROW.size=G*2:=by rw[hROW,Array.size_append,Array.size_append,hzl,hzl];simp;omega
 rw[<-hROW]at hrz
 have hend:∀W':World,W'.heap=w.heap.push (.cells ROW 182)->W'.ownsRow w.heap.size 182 2 (.slice (some ⟨w.heap.size,0,none⟩) 0 G) 0 []:=fun W' hW=>by
  refine⟨rfl,.inr ⟨w.heap.size,G,ROW,rfl,Nat.le_refl _,?_,by omega,hG2,hRs,by simp⟩⟩
  rw[hW];simp
 have HEND:=zqH hend
 clear hend hi0 hz0 hz1 hz2 i0 hROW hRs hzl
 go_enter Tryz.func272,Tryz.ntmps272
 go_wp2_with (at_builtin;refine Lib.wpList_append_run _ rfl _ _ _ _ rfl _ _ rfl rfl _ _ (hrz _) ?_)
 all_goals go_ret
 all_goals exact⟨G,rfl,hG,HEND.out _ rfl,((Upd.refl _ _).trans (Upd.alloc _ _ _)).drew⟩
theorem app_own {w:World} {base base' g n cp gs m c:Nat} {xs ys:List Value} (ho:w.ownsRow base 182 2 (.slice (some ⟨g,0,none⟩) n cp) n xs) (hs:w.ownsRow base' 182 2 (.slice (some ⟨gs,0,none⟩) m c) m ys) (h1:∀v ∈ ys,v.oneCell'=true) (hroom:n+m<=cp):
 ∃W',(∀ty,(Builtin.append_ #[251,251] ty #[.slice (some ⟨g,0,none⟩) n cp,.slice (some ⟨gs,0,none⟩) m c]).run Tryz.prog w=.ok (.slice (some ⟨g,0,none⟩) (n+m) cp) W')/\W'.ownsRow base 182 2 (.slice (some ⟨g,0,none⟩) (n+m) cp) (n+m) (xs ++ ys)/\Upd (fun b=>b=g) w W':=by
 obtain⟨i0,hi0,hz0,hz1,hz2⟩:=info_parts info182
 obtain⟨hl,⟨e1,_⟩|⟨g',c',cur,e1,hb,hh,hnc,hm,hsz,ht⟩⟩:=id ho
 · cases e1
 cases e1
 have hyl:ys.length=m*2:=hs.1
 refine⟨w.setCells g (n*2) ys,fun ty=>?_,?_,Upd.setCells (S:=fun b=>b=g) rfl _ _ _⟩
 · have h:=run_append_room_cells (P:=Tryz.prog) w 251 ty 182 i0 Tryz.underlying251 hi0 g 0 n cp ⟨gs,0,none⟩ m c ys (by rw[hz1];exact hyl) (fun j u hu=>by rw[Addr.add_lit,Nat.zero_add];exact own_cell hs hu) h1 hroom (fun j hj=>by
    rw[hz1,zaa hh _ _ (Array.getElem?_eq_getElem (by rw[hsz];omega))];rfl) (fun j hj=>zac hh _)
   rw[hz1,Nat.zero_add]at h
   exact h
 · have hlt:=(zqA.1 hh).1
   have hh2:(w.setCells g (n*2) ys).heap[g]?=some (.cells (Ex.splice cur (n*2) ys) 182 (0,0)):=by
    rw[zaz _ _ hh,Ex.withObj_heap _ _ _ _ hlt,if_pos rfl]
   refine ownsRow_spliced (w:=w) (n:=n) (xs:=xs) (cur:=cur) hb hh2 hroom hm (by rw[Ex.splice_size,hsz]) (by rw[List.length_append,hl,hyl];omega) (fun j u hj=>?_)
   have hjl:j<n*2+m*2:=by
    have:=(List.getElem?_eq_some_iff.1 hj).1
    rw[List.length_append,hl,hyl]at this;exact this
   rw[Ex.splice_get _ _ _ _ (by omega)]
   by_cases hjn:j<n*2
   · rw[if_neg (by omega)]
     rw[List.getElem?_append_left (by omega)]at hj
     rw[<-ht,List.getElem?_take,if_pos hjn,Array.getElem?_toList]at hj
     exact hj
   · rw[List.getElem?_append_right (by omega),hl]at hj
     rw[if_pos (by omega)]
     exact hj
def Cat (w:World) (m:Nat) (zs:List Value) (en:Ending) (w':World):Prop:=∃cp,en=.returned (.slice (some ⟨w.heap.size,0,none⟩) m cp)/\w'.ownsRow w.heap.size 182 2 (.slice (some ⟨w.heap.size,0,none⟩) m cp) m zs/\New w w'
theorem concat_c {w:World} {base bx g1 n1 c1 g2 n2 c2:Nat} {te:TypeId} {xs ys:List Value} (hb:w.heap[bx]?=some (.cells #[.slice (some ⟨g1,0,none⟩) n1 c1,.slice (some ⟨g2,0,none⟩) n2 c2] te (0,0))) (s1:w.ownsRow base 182 2 (.slice (some ⟨g1,0,none⟩) n1 c1) n1 xs) (s2:w.ownsRow base 182 2 (.slice (some ⟨g2,0,none⟩) n2 c2) n2 ys)
 (h1:∀v ∈ xs,v.oneCell'=true) (h2:∀v ∈ ys,v.oneCell'=true) (hn1:0<n1) (hn2:0<n2) (hn:n1+n2<=64):Calls Tryz.prog 251 #[.slice (some ⟨bx,0,none⟩) 2 2] w (Cat w (n1+n2) (xs ++ ys)):=by
 have b0:=zaa hb 0 _ rfl
 have b1:=zaa hb 1 _ rfl
 have H272:=zqH (grow_c (w:=w) (m:=n1+n2) (by omega) (by omega))
 have S1:=zqH s1;have S2:=zqH s2;have O1:=zqH h1;have O2:=zqH h2;have HB:=zqH hb
 have hm1:n1<=c1/\c1<=maxLen:=⟨(Sl.of_own s1).le,(Sl.of_own s1).max⟩
 have hm2:n2<=c2/\c2<=maxLen:=⟨(Sl.of_own s2).le,(Sl.of_own s2).max⟩
 clear s1 s2 h1 h2 hb
 go_enter Tryz.func251,Tryz.ntmps251
 go_wp2
 refine wp_loop_rounds 3 ?_
 rw[rounds_succ]
 go_wp2
 rw[rounds_succ]
 go_wp2
 rw[rounds_succ]
 go_wp2_with (go_at_call 272;refine H272.out.mono ?_;rintro e W1 ⟨cp,rfl,hcp,ho,hnw⟩;have d0:=(hnw.cell (zqB w _ b0) id).trans b0;have d1:=(hnw.cell (zqB w _ b1) id).trans b1;have HO:=zqH ho;have HN:=zqH hnw;clear H272 ho hnw b0 b1)
 obtain⟨W2,hr2,ho2,hu2⟩:=app_own (m:=n1) HO.out (zae S1.out (fun b _ hl=>HN.out.block b hl id)) O1.out (by omega)
 simp only[Nat.zero_add]at hr2 ho2
 refine wp_loop_rounds 3 ?_
 rw[rounds_succ]
 go_wp2_with (at_builtin;refine Lib.wpList_append_run _ rfl _ _ _ _ rfl _ _ rfl rfl _ _ (hr2 _) ?_)
 have hbl:bx<w.heap.size:=(zqA.1 HB.out).1
 have hbl1:bx<W1.heap.size:=zqL hbl HN.out.size
 have k1:=(hu2.cell (a:=⟨bx,1,none⟩) hbl1 (by show ¬bx=w.heap.size;omega)).trans d1
 have hg2l:g2<w.heap.size:=(zak S2.out (c:=g2) rfl).1
 obtain⟨W3,hr3,ho3,hu3⟩:=app_own (m:=n2) ho2 (zae (zae S2.out (fun b _ hl=>HN.out.block b hl id)) (fun b hb hl=>hu2.block b hl (fun e=>by simp[Value.ownBlock]at hb;omega))) O2.out (by omega)
 have HE:=zqH (And.intro ho3 ((HN.out.mono (fun _ _ h=>h.elim):Upd (fun b=>b=w.heap.size) w W1).trans (hu2.trans hu3)))
 clear ho2 hu2 ho3 hu3 hr2 d0 d1
 rw[rounds_succ]
 go_wp2_with (at_builtin;refine Lib.wpList_append_run _ rfl _ _ _ _ rfl _ _ rfl rfl _ _ (hr3 _) ?_)
 rw[rounds_succ]
 go_wp2
 go_ret
 refine⟨cp,by simp,by simpa using HE.out.1,HE.out.2.mono (fun b hb e=>by omega)⟩
theorem SetEnd.trans {base bm:Nat} {F F':Nat->Prop} {w w' w'':World} {L:List Ent} {e:Ending} (hF:∀x,F' x->F x\/w.heap.size<=x) (hu:Upd F w w') (h:SetEnd base bm F' w' L e w''):SetEnd base bm F w L e w'':=by
 obtain⟨b,F2,ps',e1,e2,e3,e4,e5⟩:=h
 refine⟨b,F2,ps',e1,e2,fun x hx=>?_,hu.then e4 (fun c hc hh=>(hF c hh).elim id (fun h=>by omega)),e5⟩
 rcases e3 x hx with h|h
 · exact hF x h
 · exact .inr (Nat.le_trans hu.size h)
theorem joins_neg {w:World} {bm:Nat}:Calls Tryz.prog 210 #[.pointer (some ⟨bm,0,none⟩),.int .i64 (-1)] w fun e w'=>e=.returned (.bool false)/\New w w':=by
 go_enter Tryz.func210,Tryz.ntmps210
 go_wp2
 go_quiet (fail)
 all_goals go_wp2
 all_goals go_ret
 all_goals exact⟨rfl,(Upd.refl _ _).drewN _⟩
theorem joins_last {base bm n c p:Nat} {w:World} {D:Nat->Prop} {A:Option Addr} {vs:List Value} {ps:List (List Ent)} (h:MapIn 182 251 base w bm D A n c vs ps) (hp:p+1=ps.length) (hps:ps.length<=1000000):
 Calls Tryz.prog 210 #[.pointer (some ⟨bm,0,none⟩),.int .i64 (p:Int)] w fun e w'=>e=.returned (.bool false)/\New w w':=by
 have hn:=h.n_eq
 have hc0:=h.cell0
 have h1:decide ((p:Int)<0)=false:=by simp
 have hw1:IntKind.i64.wrap ((p:Int)+1)=(p:Int)+1:=by rw[IntKind.wrap_i64];omega
 have h2:decide ((p:Int)+1 ≥ (n:Int))=true:=by simp;omega
 have h3:decide ((n:Int)<=(p:Int)+1)=true:=by simp;omega
 have h4:(n:Int)<=(p:Int)+1:=by omega
 have hp':p<=1000000:=by omega
 clear h hn hp hps
 go_enter Tryz.func210,Tryz.ntmps210
 go_wp2
 go_quiet (fail)
 all_goals go_wp2
 all_goals go_ret
 all_goals exact⟨rfl,(Upd.refl _ _).drewN _⟩
theorem joins_many {base bm n c p:Nat} {w:World} {D:Nat->Prop} {A:Option Addr} {vs:List Value} {ps:List (List Ent)} (h:MapIn 182 251 base w bm D A n c vs ps) (hp:p+1<ps.length) (hps:ps.length<=1000000) (hs:16<ps[p].length+ps[p+1].length):
 Calls Tryz.prog 210 #[.pointer (some ⟨bm,0,none⟩),.int .i64 (p:Int)] w fun e w'=>e=.returned (.bool false)/\New w w':=by
 have hn:=h.n_eq
 have hc0:=h.cell0
 obtain⟨g0,gp,cp,cs,rfl,hvp,hcp,hop,hep,hpos⟩:=h.at (i:=p) (by omega)
 obtain⟨g0',gq,cq,cs',e0,hvq,hcq,hoq,heq,hposq⟩:=h.at (i:=p+1) hp
 cases e0
 have hfp:=few_len h (p:=p) (by omega)
 have hfq:=few_len h (p:=p+1) hp
 obtain⟨m,hm⟩:∃m,m=ps[p].length:=⟨_,rfl⟩
 obtain⟨m',hm'⟩:∃m',m'=ps[p+1].length:=⟨_,rfl⟩
 rw[<-hm]at hcp hs hfp
 rw[<-hm']at hcq hs hfq
 have h1:decide ((p:Int)<0)=false:=by simp
 have h2:decide ((p:Int)+1 ≥ (n:Int))=false:=by simp;omega
 have h4:(p:Int)+1<(n:Int):=by omega
 have hp':p<=1000000:=by omega
 have hpn:p<n:=by omega
 have hpn1:p+1<n:=by omega
 have hw1:IntKind.i64.wrap ((p:Int)+1)=(p:Int)+1:=by rw[IntKind.wrap_i64];omega
 have h5:decide ((16:Int)<(m:Int)+(m':Int))=true:=by simp;omega
 clear h hn hp hps hvp hop hep hpos hvq hoq heq hposq hm hm'
 go_enter Tryz.func210,Tryz.ntmps210
 go_wp2
 go_quiet (fail)
 all_goals go_wp2
 all_goals go_ret
 all_goals exact⟨rfl,(Upd.refl _ _).drewN _⟩
theorem page_out {base bm n c i g0 N:Nat} {W W8:World} {D:Nat->Prop} {vs:List Value} {ps:List (List Ent)} {en:Ending} (h:MapRaw 182 251 base W bm D (some ⟨g0,0,none⟩) n c N vs ps) (hi:i<ps.length) (hd:Deleted base 251 1 W g0 n c (vs.take i ++ vs.drop (i+1)) en W8):
 W8.cell? ⟨bm,0,none⟩=some (.slice (some ⟨g0,0,none⟩) n c)/\W8.frozen? ⟨bm,0,none⟩=false/\en=.returned (.slice (some ⟨g0,0,none⟩) (n-1) c) /\
 MapRaw 182 251 base (W8.setCell ⟨bm,0,none⟩ (.slice (some ⟨g0,0,none⟩) (n-1) c)) bm D (some ⟨g0,0,none⟩) (n-1) c N (vs.take i ++ vs.drop (i+1)) (ps.take i ++ ps.drop (i+1)) /\
 Upd (fun b=>b=bm\/b=g0) W (W8.setCell ⟨bm,0,none⟩ (.slice (some ⟨g0,0,none⟩) (n-1) c)):=by
 obtain⟨he,ho,hu⟩:=hd
 have hgb:g0≠bm:=fun e=>h.bmA (by simp[Value.ownBlock,e])
 obtain⟨t,ht⟩:=h.blk
 have hbm:=(hu.block bm (zqA.1 ht).1 (fun e=>hgb e.symm)).trans ht
 have hst:Upd (fun b=>b=bm) W8 (W8.setCell ⟨bm,0,none⟩ (.slice (some ⟨g0,0,none⟩) (n-1) c)):=Upd.setCell W8 _ rfl
 have hU:Upd (fun b=>b=bm\/b=g0) W (W8.setCell ⟨bm,0,none⟩ (.slice (some ⟨g0,0,none⟩) (n-1) c)):=(hu.mono (fun _ _ e=>.inr e)).trans (hst.mono (fun _ _ e=>.inl e))
 refine⟨zaa hbm 0 _ rfl,zac hbm 0,he,?_,hU⟩
 refine h.page_del hi (hU.mono (fun b _ e=>e.imp id (fun e=>by rw[e];rfl))) ⟨t,by rw[zab hbm];rfl⟩ ?_
 exact zae ho (fun b hb hl=>hst.block b hl (fun e=>by
  simp[Value.ownBlock]at hb
  exact hgb (hb.trans e)))
theorem foot_out {bm n c i:Nat} {D:Nat->Prop} {A:Option Addr} {vs:List Value} {b:Nat} (h:foot bm D A (n-1) c (vs.take i ++ vs.drop (i+1)) b):foot bm D A n c vs b:=by
 have hob:(Value.slice A (n-1) c).ownBlock=(Value.slice A n c).ownBlock:=by cases A<;>rfl
 rcases h with h|h|⟨v,hv,h⟩|h
 · exact .inl h
 · rw[hob]at h;exact .inr (.inl h)
 · refine .inr (.inr (.inl ⟨v,?_,h⟩))
   rcases List.mem_append.1 hv with hv|hv
   · exact List.mem_of_mem_take hv
   · exact List.mem_of_mem_drop hv
 · exact .inr (.inr (.inr h))
theorem foot_set {bm n c p:Nat} {D:Nat->Prop} {A:Option Addr} {vs:List Value} {v':Value} {b z:Nat} (h:foot bm D A n c (vs.set p v') b) (hv:∀x,v'.ownBlock=some x → (∃v ∈ vs,v.ownBlock=some x)\/z<=x):foot bm D A n c vs b\/z<=b:=by
 rcases h with h|h|⟨v,hm,h⟩|h
 · exact .inl (.inl h)
 · exact .inl (.inr (.inl h))
 · rcases List.mem_or_eq_of_mem_set hm with hm|rfl
   · exact .inl (.inr (.inr (.inl ⟨v,hm,h⟩)))
   · exact(hv b h).imp (fun h=>.inr (.inr (.inl h))) id
 · exact .inl (.inr (.inr (.inr h)))
theorem joined_set {base bm n c p g0 gp cp gn cn:Nat} {w W6:World} {D:Nat->Prop} {vs:List Value} {ps:List (List Ent)} {zs:List Value} (h:MapIn 182 251 base w bm D (some ⟨g0,0,none⟩) n c vs ps) (hp:p+1<ps.length)
 (hvp:vs[p]?=some (.slice (some ⟨gp,0,none⟩) (ps[p]'(by omega)).length cp)) (hn:New w W6) (ho:W6.ownsRow base 182 2 (.slice (some ⟨gn,0,none⟩) ((ps[p]'(by omega)).length+ps[p+1].length) cn) ((ps[p]'(by omega)).length+ps[p+1].length) zs)
 (he:EntsAt D w zs (ps[p]'(by omega) ++ ps[p+1])) (hgn:w.heap.size<=gn):
 MapRaw 182 251 base (W6.setCell ⟨g0,p,none⟩ (.slice (some ⟨gn,0,none⟩) ((ps[p]'(by omega)).length+ps[p+1].length) cn)) bm D (some ⟨g0,0,none⟩) n c ps.flatten.length (vs.set p (.slice (some ⟨gn,0,none⟩) ((ps[p]'(by omega)).length+ps[p+1].length) cn)) (ps.set p (ps[p]'(by omega) ++ ps[p+1])) /\
  Upd (touch bm (some ⟨g0,0,none⟩) n c vs p) w (W6.setCell ⟨g0,p,none⟩ (.slice (some ⟨gn,0,none⟩) ((ps[p]'(by omega)).length+ps[p+1].length) cn)):=by
 obtain⟨t,ht⟩:=h.blk
 exact raw_replace h.toMapRaw (by omega) hvp (hn.mono (fun _ _ e=>e.elim)) ⟨t,(hn.block bm (zqA.1 ht).1 id).trans ht⟩ (fun _ hb=>hb) (fun _ hb=>.inl hb) (fun b hb=>zqL (h.lim b hb) hn.size) ho (by rw[List.length_append])
  (he.imp (fun _ _ hb=>hb.upd hn (fun _ _=>id))) (.inr hgn) (fun hd=>by have:=h.lim gn hd;omega)
theorem joined_end {base bm n c p g0 gp cp gn cn:Nat} {w W6 W8:World} {D F:Nat->Prop} {vs:List Value} {ps:List (List Ent)} {zs:List Value} {en:Ending} (h:MapIn 182 251 base w bm D (some ⟨g0,0,none⟩) n c vs ps) (hF:∀b,foot bm D (some ⟨g0,0,none⟩) n c vs b->F b) (hp:p+1<ps.length) (hs:(ps[p]'(by omega)).length+ps[p+1].length<=16)
 (hvp:vs[p]?=some (.slice (some ⟨gp,0,none⟩) (ps[p]'(by omega)).length cp)) (hn:New w W6) (ho:W6.ownsRow base 182 2 (.slice (some ⟨gn,0,none⟩) ((ps[p]'(by omega)).length+ps[p+1].length) cn) ((ps[p]'(by omega)).length+ps[p+1].length) zs)
 (he:EntsAt D w zs (ps[p]'(by omega) ++ ps[p+1])) (hgn:w.heap.size<=gn)
 (hd:Deleted base 251 1 (W6.setCell ⟨g0,p,none⟩ (.slice (some ⟨gn,0,none⟩) ((ps[p]'(by omega)).length+ps[p+1].length) cn)) g0 n c ((vs.set p (.slice (some ⟨gn,0,none⟩) ((ps[p]'(by omega)).length+ps[p+1].length) cn)).take (p+1) ++ (vs.set p (.slice (some ⟨gn,0,none⟩) ((ps[p]'(by omega)).length+ps[p+1].length) cn)).drop (p+1+1)) en W8):
 W8.cell? ⟨bm,0,none⟩=some (.slice (some ⟨g0,0,none⟩) n c)/\W8.frozen? ⟨bm,0,none⟩=false/\en=.returned (.slice (some ⟨g0,0,none⟩) (n-1) c) /\
 SetEnd base bm F w ps.flatten (.returned (.bool true)) (W8.setCell ⟨bm,0,none⟩ (.slice (some ⟨g0,0,none⟩) (n-1) c)):=by
 obtain⟨h7,hu7⟩:=joined_set h hp hvp hn ho he hgn
 obtain⟨k0,kf,ke,h9,hu9⟩:=page_out (i:=p+1) h7 (by rw[List.length_set];exact hp) hd
 have e:joined ps p=(ps.set p (ps[p]'(by omega) ++ ps[p+1])).take (p+1) ++ (ps.set p (ps[p]'(by omega) ++ ps[p+1])).drop (p+1+1):=by
  unfold joined
  rw[List.getElem?_eq_getElem (show p<ps.length by omega),List.getElem?_eq_getElem hp];rfl
 rw[<-e,<-joined_flat hp]at h9
 refine⟨k0,kf,ke,true,_,joined ps p,rfl,⟨D,_,_,_,_,⟨h9,joined_pages hp h.good,joined_few hp h.few hs⟩,fun b hb=>hb⟩,fun x hx=>?_,?_,joined_flat hp⟩
 · exact(foot_set (foot_out hx) (fun x e=>by simp[Value.ownBlock]at e;exact .inr (e▸hgn))).imp (hF x) id
 · refine(hu7.mono (fun b _ hb=>?_)).then hu9 (fun b hb e=>?_)
   · rcases hb with e|e|⟨v,hv,e⟩
     · exact hF b (.inl e)
     · exact hF b (.inr (.inl e))
     · exact hF b (.inr (.inr (.inl ⟨v,List.mem_of_getElem? hv,e⟩)))
   · rcases e with e|e
     · exact hF b (.inl e)
     · exact hF b (.inr (.inl (by rw[e];rfl)))
end Go.Proofs.YtbhnjkegkadodaaGreatDoor
