import Derived.Test.YtdnefddmghhgpaaGreatDoorMaS1
set_option maxRecDepth 1000000
set_option maxHeartbeats 4000000
namespace Go.Proofs.YtdnefddmghhgpaaGreatDoor
open AM Go
noncomputable section
def Mae276 : St := upd Mab276 1435 [(1426,(cu 1428 0 [65600])),(1428,(cu 1428 0 [65600,65552])),(1430,(cu 1428 0 [65600,65552,65536])),(1432,(cu 1428 0 [65600,65552,65536,65584]))] [(1434,[(0,(vu 65536)),(2,(vu 65568)),(4,(vu 65600))])] []
def Mab277 : St := upd Mat75 1435 [(1424,.dead),(1425,(cu 0 1 [65600])),(1426,(cu 1428 1 [65600])),(1427,(cu 0 1 [65552])),(1428,(cu 1428 2 [65600,65552])),(1429,(cu 0 1 [65568])),(1430,(cu 1428 3 [65600,65552,65568])),(1431,(cu 0 1 [65536])),(1432,(cu 1428 4 [65600,65552,65568,65536])),(1433,(cu 0 1 [65584])),(1434,(cu 1428 5 [65600,65552,65568,65536,65584]))] [(23,[(5,(.slice (some (1434,0)) 5 1))])] [(1428,[1434,1432,1430,1428,1426])]
def Mae277 : St := upd Mab277 1435 [(1426,(cu 1428 0 [65600])),(1428,(cu 1428 0 [65600,65552])),(1430,(cu 1428 0 [65600,65552,65568])),(1432,(cu 1428 0 [65600,65552,65568,65536]))] [(1434,[(0,(vu 65536)),(3,(vu 65584)),(4,(vu 65600))])] []
def Mab278 : St := upd Mat75 1435 [(1424,.dead),(1425,(cu 0 1 [65600])),(1426,(cu 1428 1 [65600])),(1427,(cu 0 1 [65552])),(1428,(cu 1428 2 [65600,65552])),(1429,(cu 0 1 [65568])),(1430,(cu 1428 3 [65600,65552,65568])),(1431,(cu 0 1 [65584])),(1432,(cu 1428 4 [65600,65552,65568,65584])),(1433,(cu 0 1 [65536])),(1434,(cu 1428 5 [65600,65552,65568,65584,65536]))] [(23,[(5,(.slice (some (1434,0)) 5 1))])] [(1428,[1434,1432,1430,1428,1426])]
def Mae278 : St := upd Mab278 1435 [(1426,(cu 1428 0 [65600])),(1428,(cu 1428 0 [65600,65552])),(1430,(cu 1428 0 [65600,65552,65568])),(1432,(cu 1428 0 [65600,65552,65568,65584]))] [(1434,[(0,(vu 65536)),(4,(vu 65600))])] []
def Mab279 : St := upd Mat75 1435 [(1424,.dead),(1425,(cu 0 1 [65600])),(1426,(cu 1428 1 [65600])),(1427,(cu 0 1 [65552])),(1428,(cu 1428 2 [65600,65552])),(1429,(cu 0 1 [65584])),(1430,(cu 1428 3 [65600,65552,65584])),(1431,(cu 0 1 [65536])),(1432,(cu 1428 4 [65600,65552,65584,65536])),(1433,(cu 0 1 [65568])),(1434,(cu 1428 5 [65600,65552,65584,65536,65568]))] [(23,[(5,(.slice (some (1434,0)) 5 1))])] [(1428,[1434,1432,1430,1428,1426])]
def Mae279 : St := upd Mab279 1435 [(1426,(cu 1428 0 [65600])),(1428,(cu 1428 0 [65600,65552])),(1430,(cu 1428 0 [65600,65552,65584])),(1432,(cu 1428 0 [65600,65552,65584,65536]))] [(1434,[(0,(vu 65536)),(2,(vu 65568)),(3,(vu 65584)),(4,(vu 65600))])] []
def Mab280 : St := upd Mat75 1435 [(1424,.dead),(1425,(cu 0 1 [65600])),(1426,(cu 1428 1 [65600])),(1427,(cu 0 1 [65552])),(1428,(cu 1428 2 [65600,65552])),(1429,(cu 0 1 [65584])),(1430,(cu 1428 3 [65600,65552,65584])),(1431,(cu 0 1 [65568])),(1432,(cu 1428 4 [65600,65552,65584,65568])),(1433,(cu 0 1 [65536])),(1434,(cu 1428 5 [65600,65552,65584,65568,65536]))] [(23,[(5,(.slice (some (1434,0)) 5 1))])] [(1428,[1434,1432,1430,1428,1426])]
def Mae280 : St := upd Mab280 1435 [(1426,(cu 1428 0 [65600])),(1428,(cu 1428 0 [65600,65552])),(1430,(cu 1428 0 [65600,65552,65584])),(1432,(cu 1428 0 [65600,65552,65584,65568]))] [(1434,[(0,(vu 65536)),(2,(vu 65568)),(3,(vu 65584)),(4,(vu 65600))])] []
def Mab281 : St := upd Mat75 1435 [(1424,.dead),(1425,(cu 0 1 [65600])),(1426,(cu 1428 1 [65600])),(1427,(cu 0 1 [65568])),(1428,(cu 1428 2 [65600,65568])),(1429,(cu 0 1 [65536])),(1430,(cu 1428 3 [65600,65568,65536])),(1431,(cu 0 1 [65552])),(1432,(cu 1428 4 [65600,65568,65536,65552])),(1433,(cu 0 1 [65584])),(1434,(cu 1428 5 [65600,65568,65536,65552,65584]))] [(23,[(5,(.slice (some (1434,0)) 5 1))])] [(1428,[1434,1432,1430,1428,1426])]
def Mae281 : St := upd Mab281 1435 [(1426,(cu 1428 0 [65600])),(1428,(cu 1428 0 [65600,65568])),(1430,(cu 1428 0 [65600,65568,65536])),(1432,(cu 1428 0 [65600,65568,65536,65552]))] [(1434,[(0,(vu 65536)),(1,(vu 65552)),(2,(vu 65568)),(3,(vu 65584)),(4,(vu 65600))])] []
def Mab282 : St := upd Mat75 1435 [(1424,.dead),(1425,(cu 0 1 [65600])),(1426,(cu 1428 1 [65600])),(1427,(cu 0 1 [65568])),(1428,(cu 1428 2 [65600,65568])),(1429,(cu 0 1 [65536])),(1430,(cu 1428 3 [65600,65568,65536])),(1431,(cu 0 1 [65584])),(1432,(cu 1428 4 [65600,65568,65536,65584])),(1433,(cu 0 1 [65552])),(1434,(cu 1428 5 [65600,65568,65536,65584,65552]))] [(23,[(5,(.slice (some (1434,0)) 5 1))])] [(1428,[1434,1432,1430,1428,1426])]
def Mae282 : St := upd Mab282 1435 [(1426,(cu 1428 0 [65600])),(1428,(cu 1428 0 [65600,65568])),(1430,(cu 1428 0 [65600,65568,65536])),(1432,(cu 1428 0 [65600,65568,65536,65584]))] [(1434,[(0,(vu 65536)),(1,(vu 65552)),(2,(vu 65568)),(4,(vu 65600))])] []
def Mab283 : St := upd Mat75 1435 [(1424,.dead),(1425,(cu 0 1 [65600])),(1426,(cu 1428 1 [65600])),(1427,(cu 0 1 [65568])),(1428,(cu 1428 2 [65600,65568])),(1429,(cu 0 1 [65552])),(1430,(cu 1428 3 [65600,65568,65552])),(1431,(cu 0 1 [65536])),(1432,(cu 1428 4 [65600,65568,65552,65536])),(1433,(cu 0 1 [65584])),(1434,(cu 1428 5 [65600,65568,65552,65536,65584]))] [(23,[(5,(.slice (some (1434,0)) 5 1))])] [(1428,[1434,1432,1430,1428,1426])]
def Mae283 : St := upd Mab283 1435 [(1426,(cu 1428 0 [65600])),(1428,(cu 1428 0 [65600,65568])),(1430,(cu 1428 0 [65600,65568,65552])),(1432,(cu 1428 0 [65600,65568,65552,65536]))] [(1434,[(0,(vu 65536)),(1,(vu 65552)),(2,(vu 65568)),(3,(vu 65584)),(4,(vu 65600))])] []
def Mab284 : St := upd Mat75 1435 [(1424,.dead),(1425,(cu 0 1 [65600])),(1426,(cu 1428 1 [65600])),(1427,(cu 0 1 [65568])),(1428,(cu 1428 2 [65600,65568])),(1429,(cu 0 1 [65552])),(1430,(cu 1428 3 [65600,65568,65552])),(1431,(cu 0 1 [65584])),(1432,(cu 1428 4 [65600,65568,65552,65584])),(1433,(cu 0 1 [65536])),(1434,(cu 1428 5 [65600,65568,65552,65584,65536]))] [(23,[(5,(.slice (some (1434,0)) 5 1))])] [(1428,[1434,1432,1430,1428,1426])]
def Mae284 : St := upd Mab284 1435 [(1426,(cu 1428 0 [65600])),(1428,(cu 1428 0 [65600,65568])),(1430,(cu 1428 0 [65600,65568,65552])),(1432,(cu 1428 0 [65600,65568,65552,65584]))] [(1434,[(0,(vu 65536)),(1,(vu 65552)),(2,(vu 65568)),(4,(vu 65600))])] []
def Mab285 : St := upd Mat75 1435 [(1424,.dead),(1425,(cu 0 1 [65600])),(1426,(cu 1428 1 [65600])),(1427,(cu 0 1 [65568])),(1428,(cu 1428 2 [65600,65568])),(1429,(cu 0 1 [65584])),(1430,(cu 1428 3 [65600,65568,65584])),(1431,(cu 0 1 [65536])),(1432,(cu 1428 4 [65600,65568,65584,65536])),(1433,(cu 0 1 [65552])),(1434,(cu 1428 5 [65600,65568,65584,65536,65552]))] [(23,[(5,(.slice (some (1434,0)) 5 1))])] [(1428,[1434,1432,1430,1428,1426])]
def Mae285 : St := upd Mab285 1435 [(1426,(cu 1428 0 [65600])),(1428,(cu 1428 0 [65600,65568])),(1430,(cu 1428 0 [65600,65568,65584])),(1432,(cu 1428 0 [65600,65568,65584,65536]))] [(1434,[(0,(vu 65536)),(1,(vu 65552)),(2,(vu 65568)),(3,(vu 65584)),(4,(vu 65600))])] []
def Mab286 : St := upd Mat75 1435 [(1424,.dead),(1425,(cu 0 1 [65600])),(1426,(cu 1428 1 [65600])),(1427,(cu 0 1 [65568])),(1428,(cu 1428 2 [65600,65568])),(1429,(cu 0 1 [65584])),(1430,(cu 1428 3 [65600,65568,65584])),(1431,(cu 0 1 [65552])),(1432,(cu 1428 4 [65600,65568,65584,65552])),(1433,(cu 0 1 [65536])),(1434,(cu 1428 5 [65600,65568,65584,65552,65536]))] [(23,[(5,(.slice (some (1434,0)) 5 1))])] [(1428,[1434,1432,1430,1428,1426])]
def Mae286 : St := upd Mab286 1435 [(1426,(cu 1428 0 [65600])),(1428,(cu 1428 0 [65600,65568])),(1430,(cu 1428 0 [65600,65568,65584])),(1432,(cu 1428 0 [65600,65568,65584,65552]))] [(1434,[(0,(vu 65536)),(1,(vu 65552)),(2,(vu 65568)),(3,(vu 65584)),(4,(vu 65600))])] []
def Mab287 : St := upd Mat75 1435 [(1424,.dead),(1425,(cu 0 1 [65600])),(1426,(cu 1428 1 [65600])),(1427,(cu 0 1 [65584])),(1428,(cu 1428 2 [65600,65584])),(1429,(cu 0 1 [65536])),(1430,(cu 1428 3 [65600,65584,65536])),(1431,(cu 0 1 [65552])),(1432,(cu 1428 4 [65600,65584,65536,65552])),(1433,(cu 0 1 [65568])),(1434,(cu 1428 5 [65600,65584,65536,65552,65568]))] [(23,[(5,(.slice (some (1434,0)) 5 1))])] [(1428,[1434,1432,1430,1428,1426])]
def Mae287 : St := upd Mab287 1435 [(1426,(cu 1428 0 [65600])),(1428,(cu 1428 0 [65600,65584])),(1430,(cu 1428 0 [65600,65584,65536])),(1432,(cu 1428 0 [65600,65584,65536,65552]))] [(1434,[(0,(vu 65536)),(1,(vu 65552)),(2,(vu 65568)),(3,(vu 65584)),(4,(vu 65600))])] []
def Mab288 : St := upd Mat75 1435 [(1424,.dead),(1425,(cu 0 1 [65600])),(1426,(cu 1428 1 [65600])),(1427,(cu 0 1 [65584])),(1428,(cu 1428 2 [65600,65584])),(1429,(cu 0 1 [65536])),(1430,(cu 1428 3 [65600,65584,65536])),(1431,(cu 0 1 [65568])),(1432,(cu 1428 4 [65600,65584,65536,65568])),(1433,(cu 0 1 [65552])),(1434,(cu 1428 5 [65600,65584,65536,65568,65552]))] [(23,[(5,(.slice (some (1434,0)) 5 1))])] [(1428,[1434,1432,1430,1428,1426])]
def Mae288 : St := upd Mab288 1435 [(1426,(cu 1428 0 [65600])),(1428,(cu 1428 0 [65600,65584])),(1430,(cu 1428 0 [65600,65584,65536])),(1432,(cu 1428 0 [65600,65584,65536,65568]))] [(1434,[(0,(vu 65536)),(1,(vu 65552)),(2,(vu 65568)),(3,(vu 65584)),(4,(vu 65600))])] []
def Mab289 : St := upd Mat75 1435 [(1424,.dead),(1425,(cu 0 1 [65600])),(1426,(cu 1428 1 [65600])),(1427,(cu 0 1 [65584])),(1428,(cu 1428 2 [65600,65584])),(1429,(cu 0 1 [65552])),(1430,(cu 1428 3 [65600,65584,65552])),(1431,(cu 0 1 [65536])),(1432,(cu 1428 4 [65600,65584,65552,65536])),(1433,(cu 0 1 [65568])),(1434,(cu 1428 5 [65600,65584,65552,65536,65568]))] [(23,[(5,(.slice (some (1434,0)) 5 1))])] [(1428,[1434,1432,1430,1428,1426])]
def Mae289 : St := upd Mab289 1435 [(1426,(cu 1428 0 [65600])),(1428,(cu 1428 0 [65600,65584])),(1430,(cu 1428 0 [65600,65584,65552])),(1432,(cu 1428 0 [65600,65584,65552,65536]))] [(1434,[(0,(vu 65536)),(1,(vu 65552)),(2,(vu 65568)),(3,(vu 65584)),(4,(vu 65600))])] []
def Mab290 : St := upd Mat75 1435 [(1424,.dead),(1425,(cu 0 1 [65600])),(1426,(cu 1428 1 [65600])),(1427,(cu 0 1 [65584])),(1428,(cu 1428 2 [65600,65584])),(1429,(cu 0 1 [65552])),(1430,(cu 1428 3 [65600,65584,65552])),(1431,(cu 0 1 [65568])),(1432,(cu 1428 4 [65600,65584,65552,65568])),(1433,(cu 0 1 [65536])),(1434,(cu 1428 5 [65600,65584,65552,65568,65536]))] [(23,[(5,(.slice (some (1434,0)) 5 1))])] [(1428,[1434,1432,1430,1428,1426])]
def Mae290 : St := upd Mab290 1435 [(1426,(cu 1428 0 [65600])),(1428,(cu 1428 0 [65600,65584])),(1430,(cu 1428 0 [65600,65584,65552])),(1432,(cu 1428 0 [65600,65584,65552,65568]))] [(1434,[(0,(vu 65536)),(1,(vu 65552)),(2,(vu 65568)),(3,(vu 65584)),(4,(vu 65600))])] []
def Mab291 : St := upd Mat75 1435 [(1424,.dead),(1425,(cu 0 1 [65600])),(1426,(cu 1428 1 [65600])),(1427,(cu 0 1 [65584])),(1428,(cu 1428 2 [65600,65584])),(1429,(cu 0 1 [65568])),(1430,(cu 1428 3 [65600,65584,65568])),(1431,(cu 0 1 [65536])),(1432,(cu 1428 4 [65600,65584,65568,65536])),(1433,(cu 0 1 [65552])),(1434,(cu 1428 5 [65600,65584,65568,65536,65552]))] [(23,[(5,(.slice (some (1434,0)) 5 1))])] [(1428,[1434,1432,1430,1428,1426])]
def Mae291 : St := upd Mab291 1435 [(1426,(cu 1428 0 [65600])),(1428,(cu 1428 0 [65600,65584])),(1430,(cu 1428 0 [65600,65584,65568])),(1432,(cu 1428 0 [65600,65584,65568,65536]))] [(1434,[(0,(vu 65536)),(1,(vu 65552)),(3,(vu 65584)),(4,(vu 65600))])] []
def Mab292 : St := upd Mat75 1435 [(1424,.dead),(1425,(cu 0 1 [65600])),(1426,(cu 1428 1 [65600])),(1427,(cu 0 1 [65584])),(1428,(cu 1428 2 [65600,65584])),(1429,(cu 0 1 [65568])),(1430,(cu 1428 3 [65600,65584,65568])),(1431,(cu 0 1 [65552])),(1432,(cu 1428 4 [65600,65584,65568,65552])),(1433,(cu 0 1 [65536])),(1434,(cu 1428 5 [65600,65584,65568,65552,65536]))] [(23,[(5,(.slice (some (1434,0)) 5 1))])] [(1428,[1434,1432,1430,1428,1426])]
def Mae292 : St := upd Mab292 1435 [(1426,(cu 1428 0 [65600])),(1428,(cu 1428 0 [65600,65584])),(1430,(cu 1428 0 [65600,65584,65568])),(1432,(cu 1428 0 [65600,65584,65568,65552]))] [(1434,[(0,(vu 65536)),(1,(vu 65552)),(3,(vu 65584)),(4,(vu 65600))])] []
-- (*croft/region.Pool).Need
def Mam0 : Memo := ⟨309, [(.ptr (some (40,0))),(vi 0),(.bool false)], Mat3, (.tuple [(vu 65536),(.bool true),(vi 0)]), Mat4, []⟩
def Maf0 : Fr := ⟨(tl [(0,(.ptr (some (41,0)))),(1,(vu 65536)),(2,(vi 0)),(6,(vi 0)),(7,(.ptr (some (32,0)))),(8,(.ptr (some (31,0)))),(9,(vi 0)),(10,(vu 256)),(11,(vu 255)),(12,(vu 0)),(13,(.ptr (some (41,0)))),(14,(.ptr (some (41,0)))),(15,(.ptr (some (41,0)))),(16,(.ptr (some (40,0)))),(17,(.ptr (some (40,0)))),(18,(.ptr (some (40,0)))),(19,(.ptr (some (32,0)))),(20,(.ptr (some (41,0)))),(21,(.ptr (some (41,0)))),(22,(.ptr (some (41,0)))),(23,(.ptr (some (40,0)))),(24,(.ptr (some (40,0)))),(25,(.ptr (some (40,0)))),(26,(.ptr (some (31,0)))),(27,(vu 65536)),(28,(.ptr (some (41,0)))),(29,(vu 65536)),(30,(vu 0)),(31,(vu 0)),(32,(vi 0)),(33,(.ptr (some (32,0)))),(34,(vi 0)),(35,(vi 0)),(36,(vi 0)),(37,(vi 0)),(38,(.ptr (some (1,0)))),(39,(vu 16)),(40,(vu 256)),(41,(vu 256)),(42,(vu 256)),(43,(.bool false)),(44,(vu 255)),(45,(vu 65536)),(46,(vu 255)),(47,(vu 256)),(48,(vi 0)),(49,(.ptr (some (1,0)))),(50,(vu 16)),(51,(vu 4096)),(52,(vu 69632)),(53,(vu 255)),(54,(vu 256)),(55,(vu 256)),(56,(.bool true)),(57,(.ptr (some (31,0)))),(58,(vu 65536)),(59,(vu 255)),(60,(vi 0)),(61,(.ptr (some (1,0)))),(62,(vu 16)),(63,(vu 4080)),(64,(vu 69616)),(65,(vu 0)),(66,(vi 0)),(67,(vu 256))]), []⟩
def Maf1 : Fr := ⟨updT Maf0.tmps [(11,(vu 238)),(12,(vu 69360)),(42,(vu 239)),(43,(.bool true)),(44,(vu 238)),(46,(vu 238)),(47,(vu 239)),(51,(vu 3824)),(52,(vu 69360)),(53,(vu 238)),(54,(vu 239)),(56,(.bool false)),(59,(vu 238)),(63,(vu 3808)),(64,(vu 69344)),(65,(vu 69360)),(67,(vu 239))], Maf0.defers⟩
-- (*croft/slab.Slab).born
def Mam1 : LMemo := ⟨loopNo c367 0, Maf1, Mat19, (.exit 0), Maf0, Mat20⟩
def Maf2 : Fr := ⟨updT Maf1.tmps [(11,(vu 221)),(12,(vu 69088)),(42,(vu 222)),(44,(vu 221)),(46,(vu 221)),(47,(vu 222)),(51,(vu 3552)),(52,(vu 69088)),(53,(vu 221)),(54,(vu 222)),(59,(vu 221)),(63,(vu 3536)),(64,(vu 69072)),(65,(vu 69088)),(67,(vu 222))], Maf1.defers⟩
-- (*croft/slab.Slab).born
def Mam2 : LMemo := ⟨loopNo c367 0, Maf2, Mat18, (.exit 0), Maf0, Mat20⟩
def Maf3 : Fr := ⟨updT Maf2.tmps [(11,(vu 204)),(12,(vu 68816)),(42,(vu 205)),(44,(vu 204)),(46,(vu 204)),(47,(vu 205)),(51,(vu 3280)),(52,(vu 68816)),(53,(vu 204)),(54,(vu 205)),(59,(vu 204)),(63,(vu 3264)),(64,(vu 68800)),(65,(vu 68816)),(67,(vu 205))], Maf2.defers⟩
-- (*croft/slab.Slab).born
def Mam3 : LMemo := ⟨loopNo c367 0, Maf3, Mat17, (.exit 0), Maf0, Mat20⟩
def Maf4 : Fr := ⟨updT Maf3.tmps [(11,(vu 187)),(12,(vu 68544)),(42,(vu 188)),(44,(vu 187)),(46,(vu 187)),(47,(vu 188)),(51,(vu 3008)),(52,(vu 68544)),(53,(vu 187)),(54,(vu 188)),(59,(vu 187)),(63,(vu 2992)),(64,(vu 68528)),(65,(vu 68544)),(67,(vu 188))], Maf3.defers⟩
-- (*croft/slab.Slab).born
def Mam4 : LMemo := ⟨loopNo c367 0, Maf4, Mat16, (.exit 0), Maf0, Mat20⟩
def Maf5 : Fr := ⟨updT Maf4.tmps [(11,(vu 170)),(12,(vu 68272)),(42,(vu 171)),(44,(vu 170)),(46,(vu 170)),(47,(vu 171)),(51,(vu 2736)),(52,(vu 68272)),(53,(vu 170)),(54,(vu 171)),(59,(vu 170)),(63,(vu 2720)),(64,(vu 68256)),(65,(vu 68272)),(67,(vu 171))], Maf4.defers⟩
-- (*croft/slab.Slab).born
def Mam5 : LMemo := ⟨loopNo c367 0, Maf5, Mat15, (.exit 0), Maf0, Mat20⟩
def Maf6 : Fr := ⟨updT Maf5.tmps [(11,(vu 153)),(12,(vu 68000)),(42,(vu 154)),(44,(vu 153)),(46,(vu 153)),(47,(vu 154)),(51,(vu 2464)),(52,(vu 68000)),(53,(vu 153)),(54,(vu 154)),(59,(vu 153)),(63,(vu 2448)),(64,(vu 67984)),(65,(vu 68000)),(67,(vu 154))], Maf5.defers⟩
-- (*croft/slab.Slab).born
def Mam6 : LMemo := ⟨loopNo c367 0, Maf6, Mat14, (.exit 0), Maf0, Mat20⟩
def Maf7 : Fr := ⟨updT Maf6.tmps [(11,(vu 136)),(12,(vu 67728)),(42,(vu 137)),(44,(vu 136)),(46,(vu 136)),(47,(vu 137)),(51,(vu 2192)),(52,(vu 67728)),(53,(vu 136)),(54,(vu 137)),(59,(vu 136)),(63,(vu 2176)),(64,(vu 67712)),(65,(vu 67728)),(67,(vu 137))], Maf6.defers⟩
-- (*croft/slab.Slab).born
def Mam7 : LMemo := ⟨loopNo c367 0, Maf7, Mat13, (.exit 0), Maf0, Mat20⟩
def Maf8 : Fr := ⟨updT Maf7.tmps [(11,(vu 119)),(12,(vu 67456)),(42,(vu 120)),(44,(vu 119)),(46,(vu 119)),(47,(vu 120)),(51,(vu 1920)),(52,(vu 67456)),(53,(vu 119)),(54,(vu 120)),(59,(vu 119)),(63,(vu 1904)),(64,(vu 67440)),(65,(vu 67456)),(67,(vu 120))], Maf7.defers⟩
-- (*croft/slab.Slab).born
def Mam8 : LMemo := ⟨loopNo c367 0, Maf8, Mat12, (.exit 0), Maf0, Mat20⟩
def Maf9 : Fr := ⟨updT Maf8.tmps [(11,(vu 102)),(12,(vu 67184)),(42,(vu 103)),(44,(vu 102)),(46,(vu 102)),(47,(vu 103)),(51,(vu 1648)),(52,(vu 67184)),(53,(vu 102)),(54,(vu 103)),(59,(vu 102)),(63,(vu 1632)),(64,(vu 67168)),(65,(vu 67184)),(67,(vu 103))], Maf8.defers⟩
-- (*croft/slab.Slab).born
def Mam9 : LMemo := ⟨loopNo c367 0, Maf9, Mat11, (.exit 0), Maf0, Mat20⟩
def Maf10 : Fr := ⟨updT Maf9.tmps [(11,(vu 85)),(12,(vu 66912)),(42,(vu 86)),(44,(vu 85)),(46,(vu 85)),(47,(vu 86)),(51,(vu 1376)),(52,(vu 66912)),(53,(vu 85)),(54,(vu 86)),(59,(vu 85)),(63,(vu 1360)),(64,(vu 66896)),(65,(vu 66912)),(67,(vu 86))], Maf9.defers⟩
-- (*croft/slab.Slab).born
def Mam10 : LMemo := ⟨loopNo c367 0, Maf10, Mat10, (.exit 0), Maf0, Mat20⟩
def Maf11 : Fr := ⟨updT Maf10.tmps [(11,(vu 68)),(12,(vu 66640)),(42,(vu 69)),(44,(vu 68)),(46,(vu 68)),(47,(vu 69)),(51,(vu 1104)),(52,(vu 66640)),(53,(vu 68)),(54,(vu 69)),(59,(vu 68)),(63,(vu 1088)),(64,(vu 66624)),(65,(vu 66640)),(67,(vu 69))], Maf10.defers⟩
-- (*croft/slab.Slab).born
def Mam11 : LMemo := ⟨loopNo c367 0, Maf11, Mat9, (.exit 0), Maf0, Mat20⟩
def Maf12 : Fr := ⟨updT Maf11.tmps [(11,(vu 51)),(12,(vu 66368)),(42,(vu 52)),(44,(vu 51)),(46,(vu 51)),(47,(vu 52)),(51,(vu 832)),(52,(vu 66368)),(53,(vu 51)),(54,(vu 52)),(59,(vu 51)),(63,(vu 816)),(64,(vu 66352)),(65,(vu 66368)),(67,(vu 52))], Maf11.defers⟩
-- (*croft/slab.Slab).born
def Mam12 : LMemo := ⟨loopNo c367 0, Maf12, Mat8, (.exit 0), Maf0, Mat20⟩
def Maf13 : Fr := ⟨updT Maf12.tmps [(11,(vu 34)),(12,(vu 66096)),(42,(vu 35)),(44,(vu 34)),(46,(vu 34)),(47,(vu 35)),(51,(vu 560)),(52,(vu 66096)),(53,(vu 34)),(54,(vu 35)),(59,(vu 34)),(63,(vu 544)),(64,(vu 66080)),(65,(vu 66096)),(67,(vu 35))], Maf12.defers⟩
-- (*croft/slab.Slab).born
def Mam13 : LMemo := ⟨loopNo c367 0, Maf13, Mat7, (.exit 0), Maf0, Mat20⟩
def Maf14 : Fr := ⟨updT Maf13.tmps [(11,(vu 17)),(12,(vu 65824)),(42,(vu 18)),(44,(vu 17)),(46,(vu 17)),(47,(vu 18)),(51,(vu 288)),(52,(vu 65824)),(53,(vu 17)),(54,(vu 18)),(59,(vu 17)),(63,(vu 272)),(64,(vu 65808)),(65,(vu 65824)),(67,(vu 18))], Maf13.defers⟩
-- (*croft/slab.Slab).born
def Mam14 : LMemo := ⟨loopNo c367 0, Maf14, Mat6, (.exit 0), Maf0, Mat20⟩
def Maf15 : Fr := ⟨updT Maf14.tmps [(11,(vu 0)),(12,(vu 65552)),(42,(vu 1)),(44,(vu 0)),(46,(vu 0)),(47,(vu 1)),(51,(vu 16)),(52,(vu 65552)),(53,(vu 0)),(54,(vu 1)),(59,(vu 0)),(63,(vu 0)),(64,(vu 65536)),(65,(vu 65552)),(67,(vu 1))], Maf14.defers⟩
-- (*croft/slab.Slab).born
def Mam15 : LMemo := ⟨loopNo c367 0, Maf15, Mat5, (.exit 0), Maf0, Mat20⟩
-- (*croft/malloc.Heap).Calloc
def Mam16 : Memo := ⟨162, [(.ptr (some (42,0))),(vu 1),(vu 8),(.bool false)], Mat2, (.tuple [(vu 65536),(vi 0)]), Mat21, []⟩
-- (*croft/march.Store).Make
def Mam17 : Memo := ⟨55, [(.ptr (some (45,0))),(vi 1),(vi 0),(.bool false)], Mat22, (.tuple [(vu 65552),(vi 0)]), Mat23, []⟩
-- (*croft/march.Store).Make
def Mam18 : Memo := ⟨55, [(.ptr (some (45,0))),(vi 1),(vi 0),(.bool false)], Mat23, (.tuple [(vu 65568),(vi 0)]), Mat24, []⟩
-- (*croft/march.Store).paint
def Mam19 : Memo := ⟨234, [(.ptr (some (45,0))),(vi 0)], Mat26, (.tuple []), Mat27, []⟩
-- (*croft/march.Store).Step
def Mam20 : Memo := ⟨53, [(.ptr (some (45,0))),(vi 1)], Mat25, (.agg [(vi 1),(vi 0),(vu 0),(.bool false)]), Mat28, []⟩
-- (*croft/march.Store).turn
def Mam21 : Memo := ⟨161, [(.ptr (some (45,0)))], Mat30, (.bool false), Mat31, []⟩
-- (*croft/march.Store).paint
def Mam22 : Memo := ⟨234, [(.ptr (some (45,0))),(vi 0)], Mat32, (.tuple []), Mat33, []⟩
-- (*croft/march.Store).Step
def Mam23 : Memo := ⟨53, [(.ptr (some (45,0))),(vi 9)], Mat29, (.agg [(vi 2),(vi 1),(vu 16),(.bool true)]), Mat34, []⟩
-- (*croft/march.Store).Objects
def Mam24 : Memo := ⟨62, [(.ptr (some (45,0)))], Mat35, (.slice (some (701,0)) 2 1), Mat36, []⟩
-- croft/croftlaw22.lives
def Mam25 : Memo := ⟨52, [], Mat1, (.bool true), Mat37, []⟩
-- (*croft/region.Pool).Need
def Mam26 : Memo := ⟨309, [(.ptr (some (18,0))),(vi 0),(.bool false)], Mat39, (.tuple [(vu 65536),(.bool true),(vi 0)]), Mat40, []⟩
def Maf16 : Fr := ⟨updT Maf15.tmps [(0,(.ptr (some (19,0)))),(7,(.ptr (some (10,0)))),(8,(.ptr (some (9,0)))),(11,(vu 255)),(12,(vu 0)),(13,(.ptr (some (19,0)))),(14,(.ptr (some (19,0)))),(15,(.ptr (some (19,0)))),(16,(.ptr (some (18,0)))),(17,(.ptr (some (18,0)))),(18,(.ptr (some (18,0)))),(19,(.ptr (some (10,0)))),(20,(.ptr (some (19,0)))),(21,(.ptr (some (19,0)))),(22,(.ptr (some (19,0)))),(23,(.ptr (some (18,0)))),(24,(.ptr (some (18,0)))),(25,(.ptr (some (18,0)))),(26,(.ptr (some (9,0)))),(28,(.ptr (some (19,0)))),(33,(.ptr (some (10,0)))),(42,(vu 256)),(43,(.bool false)),(44,(vu 255)),(46,(vu 255)),(47,(vu 256)),(51,(vu 4096)),(52,(vu 69632)),(53,(vu 255)),(54,(vu 256)),(56,(.bool true)),(57,(.ptr (some (9,0)))),(59,(vu 255)),(63,(vu 4080)),(64,(vu 69616)),(65,(vu 0)),(67,(vu 256))], Maf15.defers⟩
def Maf17 : Fr := ⟨updT Maf16.tmps [(11,(vu 238)),(12,(vu 69360)),(42,(vu 239)),(43,(.bool true)),(44,(vu 238)),(46,(vu 238)),(47,(vu 239)),(51,(vu 3824)),(52,(vu 69360)),(53,(vu 238)),(54,(vu 239)),(56,(.bool false)),(59,(vu 238)),(63,(vu 3808)),(64,(vu 69344)),(65,(vu 69360)),(67,(vu 239))], Maf16.defers⟩
-- (*croft/slab.Slab).born
def Mam27 : LMemo := ⟨loopNo c367 0, Maf17, Mat55, (.exit 0), Maf16, Mat56⟩
def Maf18 : Fr := ⟨updT Maf17.tmps [(11,(vu 221)),(12,(vu 69088)),(42,(vu 222)),(44,(vu 221)),(46,(vu 221)),(47,(vu 222)),(51,(vu 3552)),(52,(vu 69088)),(53,(vu 221)),(54,(vu 222)),(59,(vu 221)),(63,(vu 3536)),(64,(vu 69072)),(65,(vu 69088)),(67,(vu 222))], Maf17.defers⟩
-- (*croft/slab.Slab).born
def Mam28 : LMemo := ⟨loopNo c367 0, Maf18, Mat54, (.exit 0), Maf16, Mat56⟩
def Maf19 : Fr := ⟨updT Maf18.tmps [(11,(vu 204)),(12,(vu 68816)),(42,(vu 205)),(44,(vu 204)),(46,(vu 204)),(47,(vu 205)),(51,(vu 3280)),(52,(vu 68816)),(53,(vu 204)),(54,(vu 205)),(59,(vu 204)),(63,(vu 3264)),(64,(vu 68800)),(65,(vu 68816)),(67,(vu 205))], Maf18.defers⟩
-- (*croft/slab.Slab).born
def Mam29 : LMemo := ⟨loopNo c367 0, Maf19, Mat53, (.exit 0), Maf16, Mat56⟩
def Maf20 : Fr := ⟨updT Maf19.tmps [(11,(vu 187)),(12,(vu 68544)),(42,(vu 188)),(44,(vu 187)),(46,(vu 187)),(47,(vu 188)),(51,(vu 3008)),(52,(vu 68544)),(53,(vu 187)),(54,(vu 188)),(59,(vu 187)),(63,(vu 2992)),(64,(vu 68528)),(65,(vu 68544)),(67,(vu 188))], Maf19.defers⟩
-- (*croft/slab.Slab).born
def Mam30 : LMemo := ⟨loopNo c367 0, Maf20, Mat52, (.exit 0), Maf16, Mat56⟩
def Maf21 : Fr := ⟨updT Maf20.tmps [(11,(vu 170)),(12,(vu 68272)),(42,(vu 171)),(44,(vu 170)),(46,(vu 170)),(47,(vu 171)),(51,(vu 2736)),(52,(vu 68272)),(53,(vu 170)),(54,(vu 171)),(59,(vu 170)),(63,(vu 2720)),(64,(vu 68256)),(65,(vu 68272)),(67,(vu 171))], Maf20.defers⟩
-- (*croft/slab.Slab).born
def Mam31 : LMemo := ⟨loopNo c367 0, Maf21, Mat51, (.exit 0), Maf16, Mat56⟩
def Maf22 : Fr := ⟨updT Maf21.tmps [(11,(vu 153)),(12,(vu 68000)),(42,(vu 154)),(44,(vu 153)),(46,(vu 153)),(47,(vu 154)),(51,(vu 2464)),(52,(vu 68000)),(53,(vu 153)),(54,(vu 154)),(59,(vu 153)),(63,(vu 2448)),(64,(vu 67984)),(65,(vu 68000)),(67,(vu 154))], Maf21.defers⟩
-- (*croft/slab.Slab).born
def Mam32 : LMemo := ⟨loopNo c367 0, Maf22, Mat50, (.exit 0), Maf16, Mat56⟩
def Maf23 : Fr := ⟨updT Maf22.tmps [(11,(vu 136)),(12,(vu 67728)),(42,(vu 137)),(44,(vu 136)),(46,(vu 136)),(47,(vu 137)),(51,(vu 2192)),(52,(vu 67728)),(53,(vu 136)),(54,(vu 137)),(59,(vu 136)),(63,(vu 2176)),(64,(vu 67712)),(65,(vu 67728)),(67,(vu 137))], Maf22.defers⟩
-- (*croft/slab.Slab).born
def Mam33 : LMemo := ⟨loopNo c367 0, Maf23, Mat49, (.exit 0), Maf16, Mat56⟩
def Maf24 : Fr := ⟨updT Maf23.tmps [(11,(vu 119)),(12,(vu 67456)),(42,(vu 120)),(44,(vu 119)),(46,(vu 119)),(47,(vu 120)),(51,(vu 1920)),(52,(vu 67456)),(53,(vu 119)),(54,(vu 120)),(59,(vu 119)),(63,(vu 1904)),(64,(vu 67440)),(65,(vu 67456)),(67,(vu 120))], Maf23.defers⟩
-- (*croft/slab.Slab).born
def Mam34 : LMemo := ⟨loopNo c367 0, Maf24, Mat48, (.exit 0), Maf16, Mat56⟩
def Maf25 : Fr := ⟨updT Maf24.tmps [(11,(vu 102)),(12,(vu 67184)),(42,(vu 103)),(44,(vu 102)),(46,(vu 102)),(47,(vu 103)),(51,(vu 1648)),(52,(vu 67184)),(53,(vu 102)),(54,(vu 103)),(59,(vu 102)),(63,(vu 1632)),(64,(vu 67168)),(65,(vu 67184)),(67,(vu 103))], Maf24.defers⟩
-- (*croft/slab.Slab).born
def Mam35 : LMemo := ⟨loopNo c367 0, Maf25, Mat47, (.exit 0), Maf16, Mat56⟩
def Maf26 : Fr := ⟨updT Maf25.tmps [(11,(vu 85)),(12,(vu 66912)),(42,(vu 86)),(44,(vu 85)),(46,(vu 85)),(47,(vu 86)),(51,(vu 1376)),(52,(vu 66912)),(53,(vu 85)),(54,(vu 86)),(59,(vu 85)),(63,(vu 1360)),(64,(vu 66896)),(65,(vu 66912)),(67,(vu 86))], Maf25.defers⟩
-- (*croft/slab.Slab).born
def Mam36 : LMemo := ⟨loopNo c367 0, Maf26, Mat46, (.exit 0), Maf16, Mat56⟩
def Maf27 : Fr := ⟨updT Maf26.tmps [(11,(vu 68)),(12,(vu 66640)),(42,(vu 69)),(44,(vu 68)),(46,(vu 68)),(47,(vu 69)),(51,(vu 1104)),(52,(vu 66640)),(53,(vu 68)),(54,(vu 69)),(59,(vu 68)),(63,(vu 1088)),(64,(vu 66624)),(65,(vu 66640)),(67,(vu 69))], Maf26.defers⟩
-- (*croft/slab.Slab).born
def Mam37 : LMemo := ⟨loopNo c367 0, Maf27, Mat45, (.exit 0), Maf16, Mat56⟩
def Maf28 : Fr := ⟨updT Maf27.tmps [(11,(vu 51)),(12,(vu 66368)),(42,(vu 52)),(44,(vu 51)),(46,(vu 51)),(47,(vu 52)),(51,(vu 832)),(52,(vu 66368)),(53,(vu 51)),(54,(vu 52)),(59,(vu 51)),(63,(vu 816)),(64,(vu 66352)),(65,(vu 66368)),(67,(vu 52))], Maf27.defers⟩
-- (*croft/slab.Slab).born
def Mam38 : LMemo := ⟨loopNo c367 0, Maf28, Mat44, (.exit 0), Maf16, Mat56⟩
def Maf29 : Fr := ⟨updT Maf28.tmps [(11,(vu 34)),(12,(vu 66096)),(42,(vu 35)),(44,(vu 34)),(46,(vu 34)),(47,(vu 35)),(51,(vu 560)),(52,(vu 66096)),(53,(vu 34)),(54,(vu 35)),(59,(vu 34)),(63,(vu 544)),(64,(vu 66080)),(65,(vu 66096)),(67,(vu 35))], Maf28.defers⟩
-- (*croft/slab.Slab).born
def Mam39 : LMemo := ⟨loopNo c367 0, Maf29, Mat43, (.exit 0), Maf16, Mat56⟩
def Maf30 : Fr := ⟨updT Maf29.tmps [(11,(vu 17)),(12,(vu 65824)),(42,(vu 18)),(44,(vu 17)),(46,(vu 17)),(47,(vu 18)),(51,(vu 288)),(52,(vu 65824)),(53,(vu 17)),(54,(vu 18)),(59,(vu 17)),(63,(vu 272)),(64,(vu 65808)),(65,(vu 65824)),(67,(vu 18))], Maf29.defers⟩
-- (*croft/slab.Slab).born
def Mam40 : LMemo := ⟨loopNo c367 0, Maf30, Mat42, (.exit 0), Maf16, Mat56⟩
def Maf31 : Fr := ⟨updT Maf30.tmps [(11,(vu 0)),(12,(vu 65552)),(42,(vu 1)),(44,(vu 0)),(46,(vu 0)),(47,(vu 1)),(51,(vu 16)),(52,(vu 65552)),(53,(vu 0)),(54,(vu 1)),(59,(vu 0)),(63,(vu 0)),(64,(vu 65536)),(65,(vu 65552)),(67,(vu 1))], Maf30.defers⟩
-- (*croft/slab.Slab).born
def Mam41 : LMemo := ⟨loopNo c367 0, Maf31, Mat41, (.exit 0), Maf16, Mat56⟩
-- (*croft/malloc.Heap).Calloc
def Mam42 : Memo := ⟨162, [(.ptr (some (20,0))),(vu 1),(vu 8),(.bool false)], Mat38, (.tuple [(vu 65536),(vi 0)]), Mat57, []⟩
-- (*croft/march.Store).Make
def Mam43 : Memo := ⟨55, [(.ptr (some (23,0))),(vi 1),(vi 0),(.bool false)], Mat58, (.tuple [(vu 65552),(vi 0)]), Mat59, []⟩
-- (*croft/march.Store).Make
def Mam44 : Memo := ⟨55, [(.ptr (some (23,0))),(vi 1),(vi 0),(.bool false)], Mat59, (.tuple [(vu 65568),(vi 0)]), Mat60, []⟩
-- (*croft/march.Store).Make
def Mam45 : Memo := ⟨55, [(.ptr (some (23,0))),(vi 1),(vi 0),(.bool false)], Mat60, (.tuple [(vu 65584),(vi 0)]), Mat61, []⟩
-- (*croft/march.Store).paint
def Mam46 : Memo := ⟨234, [(.ptr (some (23,0))),(vi 0)], Mat63, (.tuple []), Mat64, []⟩
-- (*croft/march.Store).Step
def Mam47 : Memo := ⟨53, [(.ptr (some (23,0))),(vi 1)], Mat62, (.agg [(vi 1),(vi 0),(vu 0),(.bool false)]), Mat65, []⟩
-- (*croft/march.Store).Make
def Mam48 : Memo := ⟨55, [(.ptr (some (23,0))),(vi 0),(vi 0),(.bool false)], Mat66, (.tuple [(vu 65600),(vi 0)]), Mat67, []⟩
-- (*croft/march.Store).paint
def Mam49 : Memo := ⟨234, [(.ptr (some (23,0))),(vi 0)], Mab49, (.tuple []), Mae49, [1398]⟩
-- (*croft/march.Store).turn
def Mam50 : Memo := ⟨161, [(.ptr (some (23,0)))], Mat68, (.bool true), Mat69, []⟩
-- slices.SortFunc[[]uint64,uint64]
def Mam51 : Memo := ⟨168, [(.slice (some (1414,0)) 5 1),(.func 169 [(.ptr (some (23,0)))] [])], Mab51, (.tuple []), Mae51, [1404]⟩
-- slices.SortFunc[[]uint64,uint64]
def Mam52 : Memo := ⟨168, [(.slice (some (1414,0)) 5 1),(.func 169 [(.ptr (some (23,0)))] [])], Mab52, (.tuple []), Mae52, [1404]⟩
-- slices.SortFunc[[]uint64,uint64]
def Mam53 : Memo := ⟨168, [(.slice (some (1414,0)) 5 1),(.func 169 [(.ptr (some (23,0)))] [])], Mab53, (.tuple []), Mae53, [1404]⟩
-- slices.SortFunc[[]uint64,uint64]
def Mam54 : Memo := ⟨168, [(.slice (some (1414,0)) 5 1),(.func 169 [(.ptr (some (23,0)))] [])], Mab54, (.tuple []), Mae54, [1404]⟩
-- slices.SortFunc[[]uint64,uint64]
def Mam55 : Memo := ⟨168, [(.slice (some (1414,0)) 5 1),(.func 169 [(.ptr (some (23,0)))] [])], Mab55, (.tuple []), Mae55, [1404]⟩
-- slices.SortFunc[[]uint64,uint64]
def Mam56 : Memo := ⟨168, [(.slice (some (1414,0)) 5 1),(.func 169 [(.ptr (some (23,0)))] [])], Mab56, (.tuple []), Mae56, [1404]⟩
-- slices.SortFunc[[]uint64,uint64]
def Mam57 : Memo := ⟨168, [(.slice (some (1414,0)) 5 1),(.func 169 [(.ptr (some (23,0)))] [])], Mab57, (.tuple []), Mae57, [1404]⟩
-- slices.SortFunc[[]uint64,uint64]
def Mam58 : Memo := ⟨168, [(.slice (some (1414,0)) 5 1),(.func 169 [(.ptr (some (23,0)))] [])], Mab58, (.tuple []), Mae58, [1404]⟩
-- slices.SortFunc[[]uint64,uint64]
def Mam59 : Memo := ⟨168, [(.slice (some (1414,0)) 5 1),(.func 169 [(.ptr (some (23,0)))] [])], Mab59, (.tuple []), Mae59, [1404]⟩
-- slices.SortFunc[[]uint64,uint64]
def Mam60 : Memo := ⟨168, [(.slice (some (1414,0)) 5 1),(.func 169 [(.ptr (some (23,0)))] [])], Mab60, (.tuple []), Mae60, [1404]⟩
-- slices.SortFunc[[]uint64,uint64]
def Mam61 : Memo := ⟨168, [(.slice (some (1414,0)) 5 1),(.func 169 [(.ptr (some (23,0)))] [])], Mab61, (.tuple []), Mae61, [1404]⟩
-- slices.SortFunc[[]uint64,uint64]
def Mam62 : Memo := ⟨168, [(.slice (some (1414,0)) 5 1),(.func 169 [(.ptr (some (23,0)))] [])], Mab62, (.tuple []), Mae62, [1404]⟩
-- slices.SortFunc[[]uint64,uint64]
def Mam63 : Memo := ⟨168, [(.slice (some (1414,0)) 5 1),(.func 169 [(.ptr (some (23,0)))] [])], Mab63, (.tuple []), Mae63, [1404]⟩
-- slices.SortFunc[[]uint64,uint64]
def Mam64 : Memo := ⟨168, [(.slice (some (1414,0)) 5 1),(.func 169 [(.ptr (some (23,0)))] [])], Mab64, (.tuple []), Mae64, [1404]⟩
-- slices.SortFunc[[]uint64,uint64]
def Mam65 : Memo := ⟨168, [(.slice (some (1414,0)) 5 1),(.func 169 [(.ptr (some (23,0)))] [])], Mab65, (.tuple []), Mae65, [1404]⟩
-- slices.SortFunc[[]uint64,uint64]
def Mam66 : Memo := ⟨168, [(.slice (some (1414,0)) 5 1),(.func 169 [(.ptr (some (23,0)))] [])], Mab66, (.tuple []), Mae66, [1404]⟩
-- slices.SortFunc[[]uint64,uint64]
def Mam67 : Memo := ⟨168, [(.slice (some (1414,0)) 5 1),(.func 169 [(.ptr (some (23,0)))] [])], Mab67, (.tuple []), Mae67, [1404]⟩
-- slices.SortFunc[[]uint64,uint64]
def Mam68 : Memo := ⟨168, [(.slice (some (1414,0)) 5 1),(.func 169 [(.ptr (some (23,0)))] [])], Mab68, (.tuple []), Mae68, [1404]⟩
-- slices.SortFunc[[]uint64,uint64]
def Mam69 : Memo := ⟨168, [(.slice (some (1414,0)) 5 1),(.func 169 [(.ptr (some (23,0)))] [])], Mab69, (.tuple []), Mae69, [1404]⟩
-- slices.SortFunc[[]uint64,uint64]
def Mam70 : Memo := ⟨168, [(.slice (some (1414,0)) 5 1),(.func 169 [(.ptr (some (23,0)))] [])], Mab70, (.tuple []), Mae70, [1404]⟩
-- slices.SortFunc[[]uint64,uint64]
def Mam71 : Memo := ⟨168, [(.slice (some (1414,0)) 5 1),(.func 169 [(.ptr (some (23,0)))] [])], Mab71, (.tuple []), Mae71, [1404]⟩
-- slices.SortFunc[[]uint64,uint64]
def Mam72 : Memo := ⟨168, [(.slice (some (1414,0)) 5 1),(.func 169 [(.ptr (some (23,0)))] [])], Mab72, (.tuple []), Mae72, [1404]⟩
-- slices.SortFunc[[]uint64,uint64]
def Mam73 : Memo := ⟨168, [(.slice (some (1414,0)) 5 1),(.func 169 [(.ptr (some (23,0)))] [])], Mab73, (.tuple []), Mae73, [1404]⟩
-- slices.SortFunc[[]uint64,uint64]
def Mam74 : Memo := ⟨168, [(.slice (some (1414,0)) 5 1),(.func 169 [(.ptr (some (23,0)))] [])], Mab74, (.tuple []), Mae74, [1404]⟩
-- slices.SortFunc[[]uint64,uint64]
def Mam75 : Memo := ⟨168, [(.slice (some (1414,0)) 5 1),(.func 169 [(.ptr (some (23,0)))] [])], Mab75, (.tuple []), Mae75, [1404]⟩
-- slices.SortFunc[[]uint64,uint64]
def Mam76 : Memo := ⟨168, [(.slice (some (1414,0)) 5 1),(.func 169 [(.ptr (some (23,0)))] [])], Mab76, (.tuple []), Mae76, [1404]⟩
-- slices.SortFunc[[]uint64,uint64]
def Mam77 : Memo := ⟨168, [(.slice (some (1414,0)) 5 1),(.func 169 [(.ptr (some (23,0)))] [])], Mab77, (.tuple []), Mae77, [1404]⟩
-- slices.SortFunc[[]uint64,uint64]
def Mam78 : Memo := ⟨168, [(.slice (some (1414,0)) 5 1),(.func 169 [(.ptr (some (23,0)))] [])], Mab78, (.tuple []), Mae78, [1404]⟩
-- slices.SortFunc[[]uint64,uint64]
def Mam79 : Memo := ⟨168, [(.slice (some (1414,0)) 5 1),(.func 169 [(.ptr (some (23,0)))] [])], Mab79, (.tuple []), Mae79, [1404]⟩
-- slices.SortFunc[[]uint64,uint64]
def Mam80 : Memo := ⟨168, [(.slice (some (1414,0)) 5 1),(.func 169 [(.ptr (some (23,0)))] [])], Mab80, (.tuple []), Mae80, [1404]⟩
-- slices.SortFunc[[]uint64,uint64]
def Mam81 : Memo := ⟨168, [(.slice (some (1414,0)) 5 1),(.func 169 [(.ptr (some (23,0)))] [])], Mab81, (.tuple []), Mae81, [1404]⟩
-- slices.SortFunc[[]uint64,uint64]
def Mam82 : Memo := ⟨168, [(.slice (some (1414,0)) 5 1),(.func 169 [(.ptr (some (23,0)))] [])], Mab82, (.tuple []), Mae82, [1404]⟩
-- slices.SortFunc[[]uint64,uint64]
def Mam83 : Memo := ⟨168, [(.slice (some (1414,0)) 5 1),(.func 169 [(.ptr (some (23,0)))] [])], Mab83, (.tuple []), Mae83, [1404]⟩
-- slices.SortFunc[[]uint64,uint64]
def Mam84 : Memo := ⟨168, [(.slice (some (1414,0)) 5 1),(.func 169 [(.ptr (some (23,0)))] [])], Mab84, (.tuple []), Mae84, [1404]⟩
-- slices.SortFunc[[]uint64,uint64]
def Mam85 : Memo := ⟨168, [(.slice (some (1414,0)) 5 1),(.func 169 [(.ptr (some (23,0)))] [])], Mab85, (.tuple []), Mae85, [1404]⟩
-- slices.SortFunc[[]uint64,uint64]
def Mam86 : Memo := ⟨168, [(.slice (some (1414,0)) 5 1),(.func 169 [(.ptr (some (23,0)))] [])], Mab86, (.tuple []), Mae86, [1404]⟩
-- slices.SortFunc[[]uint64,uint64]
def Mam87 : Memo := ⟨168, [(.slice (some (1414,0)) 5 1),(.func 169 [(.ptr (some (23,0)))] [])], Mab87, (.tuple []), Mae87, [1404]⟩
-- slices.SortFunc[[]uint64,uint64]
def Mam88 : Memo := ⟨168, [(.slice (some (1414,0)) 5 1),(.func 169 [(.ptr (some (23,0)))] [])], Mab88, (.tuple []), Mae88, [1404]⟩
-- slices.SortFunc[[]uint64,uint64]
def Mam89 : Memo := ⟨168, [(.slice (some (1414,0)) 5 1),(.func 169 [(.ptr (some (23,0)))] [])], Mab89, (.tuple []), Mae89, [1404]⟩
-- slices.SortFunc[[]uint64,uint64]
def Mam90 : Memo := ⟨168, [(.slice (some (1414,0)) 5 1),(.func 169 [(.ptr (some (23,0)))] [])], Mab90, (.tuple []), Mae90, [1404]⟩
-- slices.SortFunc[[]uint64,uint64]
def Mam91 : Memo := ⟨168, [(.slice (some (1414,0)) 5 1),(.func 169 [(.ptr (some (23,0)))] [])], Mab91, (.tuple []), Mae91, [1404]⟩
-- slices.SortFunc[[]uint64,uint64]
def Mam92 : Memo := ⟨168, [(.slice (some (1414,0)) 5 1),(.func 169 [(.ptr (some (23,0)))] [])], Mab92, (.tuple []), Mae92, [1404]⟩
-- slices.SortFunc[[]uint64,uint64]
def Mam93 : Memo := ⟨168, [(.slice (some (1414,0)) 5 1),(.func 169 [(.ptr (some (23,0)))] [])], Mab93, (.tuple []), Mae93, [1404]⟩
-- slices.SortFunc[[]uint64,uint64]
def Mam94 : Memo := ⟨168, [(.slice (some (1414,0)) 5 1),(.func 169 [(.ptr (some (23,0)))] [])], Mab94, (.tuple []), Mae94, [1404]⟩
-- slices.SortFunc[[]uint64,uint64]
def Mam95 : Memo := ⟨168, [(.slice (some (1414,0)) 5 1),(.func 169 [(.ptr (some (23,0)))] [])], Mab95, (.tuple []), Mae95, [1404]⟩
-- slices.SortFunc[[]uint64,uint64]
def Mam96 : Memo := ⟨168, [(.slice (some (1414,0)) 5 1),(.func 169 [(.ptr (some (23,0)))] [])], Mab96, (.tuple []), Mae96, [1404]⟩
-- slices.SortFunc[[]uint64,uint64]
def Mam97 : Memo := ⟨168, [(.slice (some (1414,0)) 5 1),(.func 169 [(.ptr (some (23,0)))] [])], Mab97, (.tuple []), Mae97, [1404]⟩
-- slices.SortFunc[[]uint64,uint64]
def Mam98 : Memo := ⟨168, [(.slice (some (1414,0)) 5 1),(.func 169 [(.ptr (some (23,0)))] [])], Mab98, (.tuple []), Mae98, [1404]⟩
-- slices.SortFunc[[]uint64,uint64]
def Mam99 : Memo := ⟨168, [(.slice (some (1414,0)) 5 1),(.func 169 [(.ptr (some (23,0)))] [])], Mab99, (.tuple []), Mae99, [1404]⟩
-- slices.SortFunc[[]uint64,uint64]
def Mam100 : Memo := ⟨168, [(.slice (some (1414,0)) 5 1),(.func 169 [(.ptr (some (23,0)))] [])], Mab100, (.tuple []), Mae100, [1404]⟩
-- slices.SortFunc[[]uint64,uint64]
def Mam101 : Memo := ⟨168, [(.slice (some (1414,0)) 5 1),(.func 169 [(.ptr (some (23,0)))] [])], Mab101, (.tuple []), Mae101, [1404]⟩
-- slices.SortFunc[[]uint64,uint64]
def Mam102 : Memo := ⟨168, [(.slice (some (1414,0)) 5 1),(.func 169 [(.ptr (some (23,0)))] [])], Mab102, (.tuple []), Mae102, [1404]⟩
-- slices.SortFunc[[]uint64,uint64]
def Mam103 : Memo := ⟨168, [(.slice (some (1414,0)) 5 1),(.func 169 [(.ptr (some (23,0)))] [])], Mab103, (.tuple []), Mae103, [1404]⟩
-- slices.SortFunc[[]uint64,uint64]
def Mam104 : Memo := ⟨168, [(.slice (some (1414,0)) 5 1),(.func 169 [(.ptr (some (23,0)))] [])], Mab104, (.tuple []), Mae104, [1404]⟩
-- slices.SortFunc[[]uint64,uint64]
def Mam105 : Memo := ⟨168, [(.slice (some (1414,0)) 5 1),(.func 169 [(.ptr (some (23,0)))] [])], Mab105, (.tuple []), Mae105, [1404]⟩
-- slices.SortFunc[[]uint64,uint64]
def Mam106 : Memo := ⟨168, [(.slice (some (1414,0)) 5 1),(.func 169 [(.ptr (some (23,0)))] [])], Mab106, (.tuple []), Mae106, [1404]⟩
-- slices.SortFunc[[]uint64,uint64]
def Mam107 : Memo := ⟨168, [(.slice (some (1414,0)) 5 1),(.func 169 [(.ptr (some (23,0)))] [])], Mab107, (.tuple []), Mae107, [1404]⟩
-- slices.SortFunc[[]uint64,uint64]
def Mam108 : Memo := ⟨168, [(.slice (some (1414,0)) 5 1),(.func 169 [(.ptr (some (23,0)))] [])], Mab108, (.tuple []), Mae108, [1404]⟩
-- slices.SortFunc[[]uint64,uint64]
def Mam109 : Memo := ⟨168, [(.slice (some (1414,0)) 5 1),(.func 169 [(.ptr (some (23,0)))] [])], Mab109, (.tuple []), Mae109, [1404]⟩
-- slices.SortFunc[[]uint64,uint64]
def Mam110 : Memo := ⟨168, [(.slice (some (1414,0)) 5 1),(.func 169 [(.ptr (some (23,0)))] [])], Mab110, (.tuple []), Mae110, [1404]⟩
-- slices.SortFunc[[]uint64,uint64]
def Mam111 : Memo := ⟨168, [(.slice (some (1414,0)) 5 1),(.func 169 [(.ptr (some (23,0)))] [])], Mab111, (.tuple []), Mae111, [1404]⟩
-- slices.SortFunc[[]uint64,uint64]
def Mam112 : Memo := ⟨168, [(.slice (some (1414,0)) 5 1),(.func 169 [(.ptr (some (23,0)))] [])], Mab112, (.tuple []), Mae112, [1404]⟩
-- slices.SortFunc[[]uint64,uint64]
def Mam113 : Memo := ⟨168, [(.slice (some (1414,0)) 5 1),(.func 169 [(.ptr (some (23,0)))] [])], Mab113, (.tuple []), Mae113, [1404]⟩
-- slices.SortFunc[[]uint64,uint64]
def Mam114 : Memo := ⟨168, [(.slice (some (1414,0)) 5 1),(.func 169 [(.ptr (some (23,0)))] [])], Mab114, (.tuple []), Mae114, [1404]⟩
-- slices.SortFunc[[]uint64,uint64]
def Mam115 : Memo := ⟨168, [(.slice (some (1414,0)) 5 1),(.func 169 [(.ptr (some (23,0)))] [])], Mab115, (.tuple []), Mae115, [1404]⟩
-- slices.SortFunc[[]uint64,uint64]
def Mam116 : Memo := ⟨168, [(.slice (some (1414,0)) 5 1),(.func 169 [(.ptr (some (23,0)))] [])], Mab116, (.tuple []), Mae116, [1404]⟩
-- slices.SortFunc[[]uint64,uint64]
def Mam117 : Memo := ⟨168, [(.slice (some (1414,0)) 5 1),(.func 169 [(.ptr (some (23,0)))] [])], Mab117, (.tuple []), Mae117, [1404]⟩
-- slices.SortFunc[[]uint64,uint64]
def Mam118 : Memo := ⟨168, [(.slice (some (1414,0)) 5 1),(.func 169 [(.ptr (some (23,0)))] [])], Mab118, (.tuple []), Mae118, [1404]⟩
-- slices.SortFunc[[]uint64,uint64]
def Mam119 : Memo := ⟨168, [(.slice (some (1414,0)) 5 1),(.func 169 [(.ptr (some (23,0)))] [])], Mab119, (.tuple []), Mae119, [1404]⟩
-- slices.SortFunc[[]uint64,uint64]
def Mam120 : Memo := ⟨168, [(.slice (some (1414,0)) 5 1),(.func 169 [(.ptr (some (23,0)))] [])], Mab120, (.tuple []), Mae120, [1404]⟩
-- slices.SortFunc[[]uint64,uint64]
def Mam121 : Memo := ⟨168, [(.slice (some (1414,0)) 5 1),(.func 169 [(.ptr (some (23,0)))] [])], Mab121, (.tuple []), Mae121, [1404]⟩
-- slices.SortFunc[[]uint64,uint64]
def Mam122 : Memo := ⟨168, [(.slice (some (1414,0)) 5 1),(.func 169 [(.ptr (some (23,0)))] [])], Mab122, (.tuple []), Mae122, [1404]⟩
-- slices.SortFunc[[]uint64,uint64]
def Mam123 : Memo := ⟨168, [(.slice (some (1414,0)) 5 1),(.func 169 [(.ptr (some (23,0)))] [])], Mab123, (.tuple []), Mae123, [1404]⟩
-- slices.SortFunc[[]uint64,uint64]
def Mam124 : Memo := ⟨168, [(.slice (some (1414,0)) 5 1),(.func 169 [(.ptr (some (23,0)))] [])], Mab124, (.tuple []), Mae124, [1404]⟩
-- slices.SortFunc[[]uint64,uint64]
def Mam125 : Memo := ⟨168, [(.slice (some (1414,0)) 5 1),(.func 169 [(.ptr (some (23,0)))] [])], Mab125, (.tuple []), Mae125, [1404]⟩
-- slices.SortFunc[[]uint64,uint64]
def Mam126 : Memo := ⟨168, [(.slice (some (1414,0)) 5 1),(.func 169 [(.ptr (some (23,0)))] [])], Mab126, (.tuple []), Mae126, [1404]⟩
-- slices.SortFunc[[]uint64,uint64]
def Mam127 : Memo := ⟨168, [(.slice (some (1414,0)) 5 1),(.func 169 [(.ptr (some (23,0)))] [])], Mab127, (.tuple []), Mae127, [1404]⟩
-- slices.SortFunc[[]uint64,uint64]
def Mam128 : Memo := ⟨168, [(.slice (some (1414,0)) 5 1),(.func 169 [(.ptr (some (23,0)))] [])], Mab128, (.tuple []), Mae128, [1404]⟩
-- slices.SortFunc[[]uint64,uint64]
def Mam129 : Memo := ⟨168, [(.slice (some (1414,0)) 5 1),(.func 169 [(.ptr (some (23,0)))] [])], Mab129, (.tuple []), Mae129, [1404]⟩
-- slices.SortFunc[[]uint64,uint64]
def Mam130 : Memo := ⟨168, [(.slice (some (1414,0)) 5 1),(.func 169 [(.ptr (some (23,0)))] [])], Mab130, (.tuple []), Mae130, [1404]⟩
-- slices.SortFunc[[]uint64,uint64]
def Mam131 : Memo := ⟨168, [(.slice (some (1414,0)) 5 1),(.func 169 [(.ptr (some (23,0)))] [])], Mab131, (.tuple []), Mae131, [1404]⟩
-- slices.SortFunc[[]uint64,uint64]
def Mam132 : Memo := ⟨168, [(.slice (some (1414,0)) 5 1),(.func 169 [(.ptr (some (23,0)))] [])], Mab132, (.tuple []), Mae132, [1404]⟩
-- slices.SortFunc[[]uint64,uint64]
def Mam133 : Memo := ⟨168, [(.slice (some (1414,0)) 5 1),(.func 169 [(.ptr (some (23,0)))] [])], Mab133, (.tuple []), Mae133, [1404]⟩
-- slices.SortFunc[[]uint64,uint64]
def Mam134 : Memo := ⟨168, [(.slice (some (1414,0)) 5 1),(.func 169 [(.ptr (some (23,0)))] [])], Mab134, (.tuple []), Mae134, [1404]⟩
-- slices.SortFunc[[]uint64,uint64]
def Mam135 : Memo := ⟨168, [(.slice (some (1414,0)) 5 1),(.func 169 [(.ptr (some (23,0)))] [])], Mab135, (.tuple []), Mae135, [1404]⟩
-- slices.SortFunc[[]uint64,uint64]
def Mam136 : Memo := ⟨168, [(.slice (some (1414,0)) 5 1),(.func 169 [(.ptr (some (23,0)))] [])], Mab136, (.tuple []), Mae136, [1404]⟩
-- slices.SortFunc[[]uint64,uint64]
def Mam137 : Memo := ⟨168, [(.slice (some (1414,0)) 5 1),(.func 169 [(.ptr (some (23,0)))] [])], Mab137, (.tuple []), Mae137, [1404]⟩
-- slices.SortFunc[[]uint64,uint64]
def Mam138 : Memo := ⟨168, [(.slice (some (1414,0)) 5 1),(.func 169 [(.ptr (some (23,0)))] [])], Mab138, (.tuple []), Mae138, [1404]⟩
-- slices.SortFunc[[]uint64,uint64]
def Mam139 : Memo := ⟨168, [(.slice (some (1414,0)) 5 1),(.func 169 [(.ptr (some (23,0)))] [])], Mab139, (.tuple []), Mae139, [1404]⟩
-- slices.SortFunc[[]uint64,uint64]
def Mam140 : Memo := ⟨168, [(.slice (some (1414,0)) 5 1),(.func 169 [(.ptr (some (23,0)))] [])], Mab140, (.tuple []), Mae140, [1404]⟩
-- slices.SortFunc[[]uint64,uint64]
def Mam141 : Memo := ⟨168, [(.slice (some (1414,0)) 5 1),(.func 169 [(.ptr (some (23,0)))] [])], Mab141, (.tuple []), Mae141, [1404]⟩
-- slices.SortFunc[[]uint64,uint64]
def Mam142 : Memo := ⟨168, [(.slice (some (1414,0)) 5 1),(.func 169 [(.ptr (some (23,0)))] [])], Mab142, (.tuple []), Mae142, [1404]⟩
-- slices.SortFunc[[]uint64,uint64]
def Mam143 : Memo := ⟨168, [(.slice (some (1414,0)) 5 1),(.func 169 [(.ptr (some (23,0)))] [])], Mab143, (.tuple []), Mae143, [1404]⟩
-- slices.SortFunc[[]uint64,uint64]
def Mam144 : Memo := ⟨168, [(.slice (some (1414,0)) 5 1),(.func 169 [(.ptr (some (23,0)))] [])], Mab144, (.tuple []), Mae144, [1404]⟩
-- slices.SortFunc[[]uint64,uint64]
def Mam145 : Memo := ⟨168, [(.slice (some (1414,0)) 5 1),(.func 169 [(.ptr (some (23,0)))] [])], Mab145, (.tuple []), Mae145, [1404]⟩
-- slices.SortFunc[[]uint64,uint64]
def Mam146 : Memo := ⟨168, [(.slice (some (1414,0)) 5 1),(.func 169 [(.ptr (some (23,0)))] [])], Mab146, (.tuple []), Mae146, [1404]⟩
-- slices.SortFunc[[]uint64,uint64]
def Mam147 : Memo := ⟨168, [(.slice (some (1414,0)) 5 1),(.func 169 [(.ptr (some (23,0)))] [])], Mab147, (.tuple []), Mae147, [1404]⟩
-- slices.SortFunc[[]uint64,uint64]
def Mam148 : Memo := ⟨168, [(.slice (some (1414,0)) 5 1),(.func 169 [(.ptr (some (23,0)))] [])], Mab148, (.tuple []), Mae148, [1404]⟩
-- slices.SortFunc[[]uint64,uint64]
def Mam149 : Memo := ⟨168, [(.slice (some (1414,0)) 5 1),(.func 169 [(.ptr (some (23,0)))] [])], Mab149, (.tuple []), Mae149, [1404]⟩
-- slices.SortFunc[[]uint64,uint64]
def Mam150 : Memo := ⟨168, [(.slice (some (1414,0)) 5 1),(.func 169 [(.ptr (some (23,0)))] [])], Mab150, (.tuple []), Mae150, [1404]⟩
-- slices.SortFunc[[]uint64,uint64]
def Mam151 : Memo := ⟨168, [(.slice (some (1414,0)) 5 1),(.func 169 [(.ptr (some (23,0)))] [])], Mab151, (.tuple []), Mae151, [1404]⟩
-- slices.SortFunc[[]uint64,uint64]
def Mam152 : Memo := ⟨168, [(.slice (some (1414,0)) 5 1),(.func 169 [(.ptr (some (23,0)))] [])], Mab152, (.tuple []), Mae152, [1404]⟩
-- slices.SortFunc[[]uint64,uint64]
def Mam153 : Memo := ⟨168, [(.slice (some (1414,0)) 5 1),(.func 169 [(.ptr (some (23,0)))] [])], Mab153, (.tuple []), Mae153, [1404]⟩
-- slices.SortFunc[[]uint64,uint64]
def Mam154 : Memo := ⟨168, [(.slice (some (1414,0)) 5 1),(.func 169 [(.ptr (some (23,0)))] [])], Mab154, (.tuple []), Mae154, [1404]⟩
-- slices.SortFunc[[]uint64,uint64]
def Mam155 : Memo := ⟨168, [(.slice (some (1414,0)) 5 1),(.func 169 [(.ptr (some (23,0)))] [])], Mab155, (.tuple []), Mae155, [1404]⟩
-- slices.SortFunc[[]uint64,uint64]
def Mam156 : Memo := ⟨168, [(.slice (some (1414,0)) 5 1),(.func 169 [(.ptr (some (23,0)))] [])], Mab156, (.tuple []), Mae156, [1404]⟩
-- slices.SortFunc[[]uint64,uint64]
def Mam157 : Memo := ⟨168, [(.slice (some (1414,0)) 5 1),(.func 169 [(.ptr (some (23,0)))] [])], Mab157, (.tuple []), Mae157, [1404]⟩
-- slices.SortFunc[[]uint64,uint64]
def Mam158 : Memo := ⟨168, [(.slice (some (1414,0)) 5 1),(.func 169 [(.ptr (some (23,0)))] [])], Mab158, (.tuple []), Mae158, [1404]⟩
-- slices.SortFunc[[]uint64,uint64]
def Mam159 : Memo := ⟨168, [(.slice (some (1414,0)) 5 1),(.func 169 [(.ptr (some (23,0)))] [])], Mab159, (.tuple []), Mae159, [1404]⟩
-- slices.SortFunc[[]uint64,uint64]
def Mam160 : Memo := ⟨168, [(.slice (some (1414,0)) 5 1),(.func 169 [(.ptr (some (23,0)))] [])], Mab160, (.tuple []), Mae160, [1404]⟩
-- slices.SortFunc[[]uint64,uint64]
def Mam161 : Memo := ⟨168, [(.slice (some (1414,0)) 5 1),(.func 169 [(.ptr (some (23,0)))] [])], Mab161, (.tuple []), Mae161, [1404]⟩
-- slices.SortFunc[[]uint64,uint64]
def Mam162 : Memo := ⟨168, [(.slice (some (1414,0)) 5 1),(.func 169 [(.ptr (some (23,0)))] [])], Mab162, (.tuple []), Mae162, [1404]⟩
-- slices.SortFunc[[]uint64,uint64]
def Mam163 : Memo := ⟨168, [(.slice (some (1414,0)) 5 1),(.func 169 [(.ptr (some (23,0)))] [])], Mab163, (.tuple []), Mae163, [1404]⟩
-- slices.SortFunc[[]uint64,uint64]
def Mam164 : Memo := ⟨168, [(.slice (some (1414,0)) 5 1),(.func 169 [(.ptr (some (23,0)))] [])], Mab164, (.tuple []), Mae164, [1404]⟩
-- slices.SortFunc[[]uint64,uint64]
def Mam165 : Memo := ⟨168, [(.slice (some (1414,0)) 5 1),(.func 169 [(.ptr (some (23,0)))] [])], Mab165, (.tuple []), Mae165, [1404]⟩
-- slices.SortFunc[[]uint64,uint64]
def Mam166 : Memo := ⟨168, [(.slice (some (1414,0)) 5 1),(.func 169 [(.ptr (some (23,0)))] [])], Mab166, (.tuple []), Mae166, [1404]⟩
-- slices.SortFunc[[]uint64,uint64]
def Mam167 : Memo := ⟨168, [(.slice (some (1414,0)) 5 1),(.func 169 [(.ptr (some (23,0)))] [])], Mab167, (.tuple []), Mae167, [1404]⟩
-- slices.SortFunc[[]uint64,uint64]
def Mam168 : Memo := ⟨168, [(.slice (some (1414,0)) 5 1),(.func 169 [(.ptr (some (23,0)))] [])], Mab168, (.tuple []), Mae168, [1404]⟩
-- slices.SortFunc[[]uint64,uint64]
def Mam169 : Memo := ⟨168, [(.slice (some (1414,0)) 5 1),(.func 169 [(.ptr (some (23,0)))] [])], Mab169, (.tuple []), Mae169, [1404]⟩
-- slices.SortFunc[[]uint64,uint64]
def Mam170 : Memo := ⟨168, [(.slice (some (1414,0)) 5 1),(.func 169 [(.ptr (some (23,0)))] [])], Mab170, (.tuple []), Mae170, [1404]⟩
-- (*croft/march.Store).Objects
def Mam171 : Memo := ⟨62, [(.ptr (some (23,0)))], Mat70, (.slice (some (1414,0)) 5 1), Mat71, []⟩
-- (*croft/march.Store).paint
def Mam172 : Memo := ⟨234, [(.ptr (some (23,0))),(vi 0)], Mat73, (.tuple []), Mat74, []⟩
-- slices.SortFunc[[]uint64,uint64]
def Mam173 : Memo := ⟨168, [(.slice (some (1434,0)) 5 1),(.func 169 [(.ptr (some (23,0)))] [])], Mab173, (.tuple []), Mae173, [1424]⟩
-- slices.SortFunc[[]uint64,uint64]
def Mam174 : Memo := ⟨168, [(.slice (some (1434,0)) 5 1),(.func 169 [(.ptr (some (23,0)))] [])], Mab174, (.tuple []), Mae174, [1424]⟩
-- slices.SortFunc[[]uint64,uint64]
def Mam175 : Memo := ⟨168, [(.slice (some (1434,0)) 5 1),(.func 169 [(.ptr (some (23,0)))] [])], Mab175, (.tuple []), Mae175, [1424]⟩
-- slices.SortFunc[[]uint64,uint64]
def Mam176 : Memo := ⟨168, [(.slice (some (1434,0)) 5 1),(.func 169 [(.ptr (some (23,0)))] [])], Mab176, (.tuple []), Mae176, [1424]⟩
-- slices.SortFunc[[]uint64,uint64]
def Mam177 : Memo := ⟨168, [(.slice (some (1434,0)) 5 1),(.func 169 [(.ptr (some (23,0)))] [])], Mab177, (.tuple []), Mae177, [1424]⟩
-- slices.SortFunc[[]uint64,uint64]
def Mam178 : Memo := ⟨168, [(.slice (some (1434,0)) 5 1),(.func 169 [(.ptr (some (23,0)))] [])], Mab178, (.tuple []), Mae178, [1424]⟩
-- slices.SortFunc[[]uint64,uint64]
def Mam179 : Memo := ⟨168, [(.slice (some (1434,0)) 5 1),(.func 169 [(.ptr (some (23,0)))] [])], Mab179, (.tuple []), Mae179, [1424]⟩
-- slices.SortFunc[[]uint64,uint64]
def Mam180 : Memo := ⟨168, [(.slice (some (1434,0)) 5 1),(.func 169 [(.ptr (some (23,0)))] [])], Mab180, (.tuple []), Mae180, [1424]⟩
-- slices.SortFunc[[]uint64,uint64]
def Mam181 : Memo := ⟨168, [(.slice (some (1434,0)) 5 1),(.func 169 [(.ptr (some (23,0)))] [])], Mab181, (.tuple []), Mae181, [1424]⟩
-- slices.SortFunc[[]uint64,uint64]
def Mam182 : Memo := ⟨168, [(.slice (some (1434,0)) 5 1),(.func 169 [(.ptr (some (23,0)))] [])], Mab182, (.tuple []), Mae182, [1424]⟩
-- slices.SortFunc[[]uint64,uint64]
def Mam183 : Memo := ⟨168, [(.slice (some (1434,0)) 5 1),(.func 169 [(.ptr (some (23,0)))] [])], Mab183, (.tuple []), Mae183, [1424]⟩
-- slices.SortFunc[[]uint64,uint64]
def Mam184 : Memo := ⟨168, [(.slice (some (1434,0)) 5 1),(.func 169 [(.ptr (some (23,0)))] [])], Mab184, (.tuple []), Mae184, [1424]⟩
-- slices.SortFunc[[]uint64,uint64]
def Mam185 : Memo := ⟨168, [(.slice (some (1434,0)) 5 1),(.func 169 [(.ptr (some (23,0)))] [])], Mab185, (.tuple []), Mae185, [1424]⟩
-- slices.SortFunc[[]uint64,uint64]
def Mam186 : Memo := ⟨168, [(.slice (some (1434,0)) 5 1),(.func 169 [(.ptr (some (23,0)))] [])], Mab186, (.tuple []), Mae186, [1424]⟩
-- slices.SortFunc[[]uint64,uint64]
def Mam187 : Memo := ⟨168, [(.slice (some (1434,0)) 5 1),(.func 169 [(.ptr (some (23,0)))] [])], Mab187, (.tuple []), Mae187, [1424]⟩
-- slices.SortFunc[[]uint64,uint64]
def Mam188 : Memo := ⟨168, [(.slice (some (1434,0)) 5 1),(.func 169 [(.ptr (some (23,0)))] [])], Mab188, (.tuple []), Mae188, [1424]⟩
-- slices.SortFunc[[]uint64,uint64]
def Mam189 : Memo := ⟨168, [(.slice (some (1434,0)) 5 1),(.func 169 [(.ptr (some (23,0)))] [])], Mab189, (.tuple []), Mae189, [1424]⟩
-- slices.SortFunc[[]uint64,uint64]
def Mam190 : Memo := ⟨168, [(.slice (some (1434,0)) 5 1),(.func 169 [(.ptr (some (23,0)))] [])], Mab190, (.tuple []), Mae190, [1424]⟩
-- slices.SortFunc[[]uint64,uint64]
def Mam191 : Memo := ⟨168, [(.slice (some (1434,0)) 5 1),(.func 169 [(.ptr (some (23,0)))] [])], Mab191, (.tuple []), Mae191, [1424]⟩
-- slices.SortFunc[[]uint64,uint64]
def Mam192 : Memo := ⟨168, [(.slice (some (1434,0)) 5 1),(.func 169 [(.ptr (some (23,0)))] [])], Mab192, (.tuple []), Mae192, [1424]⟩
-- slices.SortFunc[[]uint64,uint64]
def Mam193 : Memo := ⟨168, [(.slice (some (1434,0)) 5 1),(.func 169 [(.ptr (some (23,0)))] [])], Mab193, (.tuple []), Mae193, [1424]⟩
-- slices.SortFunc[[]uint64,uint64]
def Mam194 : Memo := ⟨168, [(.slice (some (1434,0)) 5 1),(.func 169 [(.ptr (some (23,0)))] [])], Mab194, (.tuple []), Mae194, [1424]⟩
-- slices.SortFunc[[]uint64,uint64]
def Mam195 : Memo := ⟨168, [(.slice (some (1434,0)) 5 1),(.func 169 [(.ptr (some (23,0)))] [])], Mab195, (.tuple []), Mae195, [1424]⟩
-- slices.SortFunc[[]uint64,uint64]
def Mam196 : Memo := ⟨168, [(.slice (some (1434,0)) 5 1),(.func 169 [(.ptr (some (23,0)))] [])], Mab196, (.tuple []), Mae196, [1424]⟩
-- slices.SortFunc[[]uint64,uint64]
def Mam197 : Memo := ⟨168, [(.slice (some (1434,0)) 5 1),(.func 169 [(.ptr (some (23,0)))] [])], Mab197, (.tuple []), Mae197, [1424]⟩
-- slices.SortFunc[[]uint64,uint64]
def Mam198 : Memo := ⟨168, [(.slice (some (1434,0)) 5 1),(.func 169 [(.ptr (some (23,0)))] [])], Mab198, (.tuple []), Mae198, [1424]⟩
-- slices.SortFunc[[]uint64,uint64]
def Mam199 : Memo := ⟨168, [(.slice (some (1434,0)) 5 1),(.func 169 [(.ptr (some (23,0)))] [])], Mab199, (.tuple []), Mae199, [1424]⟩
-- slices.SortFunc[[]uint64,uint64]
def Mam200 : Memo := ⟨168, [(.slice (some (1434,0)) 5 1),(.func 169 [(.ptr (some (23,0)))] [])], Mab200, (.tuple []), Mae200, [1424]⟩
-- slices.SortFunc[[]uint64,uint64]
def Mam201 : Memo := ⟨168, [(.slice (some (1434,0)) 5 1),(.func 169 [(.ptr (some (23,0)))] [])], Mab201, (.tuple []), Mae201, [1424]⟩
-- slices.SortFunc[[]uint64,uint64]
def Mam202 : Memo := ⟨168, [(.slice (some (1434,0)) 5 1),(.func 169 [(.ptr (some (23,0)))] [])], Mab202, (.tuple []), Mae202, [1424]⟩
-- slices.SortFunc[[]uint64,uint64]
def Mam203 : Memo := ⟨168, [(.slice (some (1434,0)) 5 1),(.func 169 [(.ptr (some (23,0)))] [])], Mab203, (.tuple []), Mae203, [1424]⟩
-- slices.SortFunc[[]uint64,uint64]
def Mam204 : Memo := ⟨168, [(.slice (some (1434,0)) 5 1),(.func 169 [(.ptr (some (23,0)))] [])], Mab204, (.tuple []), Mae204, [1424]⟩
-- slices.SortFunc[[]uint64,uint64]
def Mam205 : Memo := ⟨168, [(.slice (some (1434,0)) 5 1),(.func 169 [(.ptr (some (23,0)))] [])], Mab205, (.tuple []), Mae205, [1424]⟩
-- slices.SortFunc[[]uint64,uint64]
def Mam206 : Memo := ⟨168, [(.slice (some (1434,0)) 5 1),(.func 169 [(.ptr (some (23,0)))] [])], Mab206, (.tuple []), Mae206, [1424]⟩
-- slices.SortFunc[[]uint64,uint64]
def Mam207 : Memo := ⟨168, [(.slice (some (1434,0)) 5 1),(.func 169 [(.ptr (some (23,0)))] [])], Mab207, (.tuple []), Mae207, [1424]⟩
-- slices.SortFunc[[]uint64,uint64]
def Mam208 : Memo := ⟨168, [(.slice (some (1434,0)) 5 1),(.func 169 [(.ptr (some (23,0)))] [])], Mab208, (.tuple []), Mae208, [1424]⟩
-- slices.SortFunc[[]uint64,uint64]
def Mam209 : Memo := ⟨168, [(.slice (some (1434,0)) 5 1),(.func 169 [(.ptr (some (23,0)))] [])], Mab209, (.tuple []), Mae209, [1424]⟩
-- slices.SortFunc[[]uint64,uint64]
def Mam210 : Memo := ⟨168, [(.slice (some (1434,0)) 5 1),(.func 169 [(.ptr (some (23,0)))] [])], Mab210, (.tuple []), Mae210, [1424]⟩
-- slices.SortFunc[[]uint64,uint64]
def Mam211 : Memo := ⟨168, [(.slice (some (1434,0)) 5 1),(.func 169 [(.ptr (some (23,0)))] [])], Mab211, (.tuple []), Mae211, [1424]⟩
-- slices.SortFunc[[]uint64,uint64]
def Mam212 : Memo := ⟨168, [(.slice (some (1434,0)) 5 1),(.func 169 [(.ptr (some (23,0)))] [])], Mab212, (.tuple []), Mae212, [1424]⟩
-- slices.SortFunc[[]uint64,uint64]
def Mam213 : Memo := ⟨168, [(.slice (some (1434,0)) 5 1),(.func 169 [(.ptr (some (23,0)))] [])], Mab213, (.tuple []), Mae213, [1424]⟩
-- slices.SortFunc[[]uint64,uint64]
def Mam214 : Memo := ⟨168, [(.slice (some (1434,0)) 5 1),(.func 169 [(.ptr (some (23,0)))] [])], Mab214, (.tuple []), Mae214, [1424]⟩
-- slices.SortFunc[[]uint64,uint64]
def Mam215 : Memo := ⟨168, [(.slice (some (1434,0)) 5 1),(.func 169 [(.ptr (some (23,0)))] [])], Mab215, (.tuple []), Mae215, [1424]⟩
-- slices.SortFunc[[]uint64,uint64]
def Mam216 : Memo := ⟨168, [(.slice (some (1434,0)) 5 1),(.func 169 [(.ptr (some (23,0)))] [])], Mab216, (.tuple []), Mae216, [1424]⟩
-- slices.SortFunc[[]uint64,uint64]
def Mam217 : Memo := ⟨168, [(.slice (some (1434,0)) 5 1),(.func 169 [(.ptr (some (23,0)))] [])], Mab217, (.tuple []), Mae217, [1424]⟩
-- slices.SortFunc[[]uint64,uint64]
def Mam218 : Memo := ⟨168, [(.slice (some (1434,0)) 5 1),(.func 169 [(.ptr (some (23,0)))] [])], Mab218, (.tuple []), Mae218, [1424]⟩
-- slices.SortFunc[[]uint64,uint64]
def Mam219 : Memo := ⟨168, [(.slice (some (1434,0)) 5 1),(.func 169 [(.ptr (some (23,0)))] [])], Mab219, (.tuple []), Mae219, [1424]⟩
-- slices.SortFunc[[]uint64,uint64]
def Mam220 : Memo := ⟨168, [(.slice (some (1434,0)) 5 1),(.func 169 [(.ptr (some (23,0)))] [])], Mab220, (.tuple []), Mae220, [1424]⟩
-- slices.SortFunc[[]uint64,uint64]
def Mam221 : Memo := ⟨168, [(.slice (some (1434,0)) 5 1),(.func 169 [(.ptr (some (23,0)))] [])], Mab221, (.tuple []), Mae221, [1424]⟩
-- slices.SortFunc[[]uint64,uint64]
def Mam222 : Memo := ⟨168, [(.slice (some (1434,0)) 5 1),(.func 169 [(.ptr (some (23,0)))] [])], Mab222, (.tuple []), Mae222, [1424]⟩
-- slices.SortFunc[[]uint64,uint64]
def Mam223 : Memo := ⟨168, [(.slice (some (1434,0)) 5 1),(.func 169 [(.ptr (some (23,0)))] [])], Mab223, (.tuple []), Mae223, [1424]⟩
-- slices.SortFunc[[]uint64,uint64]
def Mam224 : Memo := ⟨168, [(.slice (some (1434,0)) 5 1),(.func 169 [(.ptr (some (23,0)))] [])], Mab224, (.tuple []), Mae224, [1424]⟩
-- slices.SortFunc[[]uint64,uint64]
def Mam225 : Memo := ⟨168, [(.slice (some (1434,0)) 5 1),(.func 169 [(.ptr (some (23,0)))] [])], Mab225, (.tuple []), Mae225, [1424]⟩
-- slices.SortFunc[[]uint64,uint64]
def Mam226 : Memo := ⟨168, [(.slice (some (1434,0)) 5 1),(.func 169 [(.ptr (some (23,0)))] [])], Mab226, (.tuple []), Mae226, [1424]⟩
-- slices.SortFunc[[]uint64,uint64]
def Mam227 : Memo := ⟨168, [(.slice (some (1434,0)) 5 1),(.func 169 [(.ptr (some (23,0)))] [])], Mab227, (.tuple []), Mae227, [1424]⟩
-- slices.SortFunc[[]uint64,uint64]
def Mam228 : Memo := ⟨168, [(.slice (some (1434,0)) 5 1),(.func 169 [(.ptr (some (23,0)))] [])], Mab228, (.tuple []), Mae228, [1424]⟩
-- slices.SortFunc[[]uint64,uint64]
def Mam229 : Memo := ⟨168, [(.slice (some (1434,0)) 5 1),(.func 169 [(.ptr (some (23,0)))] [])], Mab229, (.tuple []), Mae229, [1424]⟩
-- slices.SortFunc[[]uint64,uint64]
def Mam230 : Memo := ⟨168, [(.slice (some (1434,0)) 5 1),(.func 169 [(.ptr (some (23,0)))] [])], Mab230, (.tuple []), Mae230, [1424]⟩
-- slices.SortFunc[[]uint64,uint64]
def Mam231 : Memo := ⟨168, [(.slice (some (1434,0)) 5 1),(.func 169 [(.ptr (some (23,0)))] [])], Mab231, (.tuple []), Mae231, [1424]⟩
-- slices.SortFunc[[]uint64,uint64]
def Mam232 : Memo := ⟨168, [(.slice (some (1434,0)) 5 1),(.func 169 [(.ptr (some (23,0)))] [])], Mab232, (.tuple []), Mae232, [1424]⟩
-- slices.SortFunc[[]uint64,uint64]
def Mam233 : Memo := ⟨168, [(.slice (some (1434,0)) 5 1),(.func 169 [(.ptr (some (23,0)))] [])], Mab233, (.tuple []), Mae233, [1424]⟩
-- slices.SortFunc[[]uint64,uint64]
def Mam234 : Memo := ⟨168, [(.slice (some (1434,0)) 5 1),(.func 169 [(.ptr (some (23,0)))] [])], Mab234, (.tuple []), Mae234, [1424]⟩
-- slices.SortFunc[[]uint64,uint64]
def Mam235 : Memo := ⟨168, [(.slice (some (1434,0)) 5 1),(.func 169 [(.ptr (some (23,0)))] [])], Mab235, (.tuple []), Mae235, [1424]⟩
-- slices.SortFunc[[]uint64,uint64]
def Mam236 : Memo := ⟨168, [(.slice (some (1434,0)) 5 1),(.func 169 [(.ptr (some (23,0)))] [])], Mab236, (.tuple []), Mae236, [1424]⟩
-- slices.SortFunc[[]uint64,uint64]
def Mam237 : Memo := ⟨168, [(.slice (some (1434,0)) 5 1),(.func 169 [(.ptr (some (23,0)))] [])], Mab237, (.tuple []), Mae237, [1424]⟩
-- slices.SortFunc[[]uint64,uint64]
def Mam238 : Memo := ⟨168, [(.slice (some (1434,0)) 5 1),(.func 169 [(.ptr (some (23,0)))] [])], Mab238, (.tuple []), Mae238, [1424]⟩
-- slices.SortFunc[[]uint64,uint64]
def Mam239 : Memo := ⟨168, [(.slice (some (1434,0)) 5 1),(.func 169 [(.ptr (some (23,0)))] [])], Mab239, (.tuple []), Mae239, [1424]⟩
-- slices.SortFunc[[]uint64,uint64]
def Mam240 : Memo := ⟨168, [(.slice (some (1434,0)) 5 1),(.func 169 [(.ptr (some (23,0)))] [])], Mab240, (.tuple []), Mae240, [1424]⟩
-- slices.SortFunc[[]uint64,uint64]
def Mam241 : Memo := ⟨168, [(.slice (some (1434,0)) 5 1),(.func 169 [(.ptr (some (23,0)))] [])], Mab241, (.tuple []), Mae241, [1424]⟩
-- slices.SortFunc[[]uint64,uint64]
def Mam242 : Memo := ⟨168, [(.slice (some (1434,0)) 5 1),(.func 169 [(.ptr (some (23,0)))] [])], Mab242, (.tuple []), Mae242, [1424]⟩
-- slices.SortFunc[[]uint64,uint64]
def Mam243 : Memo := ⟨168, [(.slice (some (1434,0)) 5 1),(.func 169 [(.ptr (some (23,0)))] [])], Mab243, (.tuple []), Mae243, [1424]⟩
-- slices.SortFunc[[]uint64,uint64]
def Mam244 : Memo := ⟨168, [(.slice (some (1434,0)) 5 1),(.func 169 [(.ptr (some (23,0)))] [])], Mab244, (.tuple []), Mae244, [1424]⟩
-- slices.SortFunc[[]uint64,uint64]
def Mam245 : Memo := ⟨168, [(.slice (some (1434,0)) 5 1),(.func 169 [(.ptr (some (23,0)))] [])], Mab245, (.tuple []), Mae245, [1424]⟩
-- slices.SortFunc[[]uint64,uint64]
def Mam246 : Memo := ⟨168, [(.slice (some (1434,0)) 5 1),(.func 169 [(.ptr (some (23,0)))] [])], Mab246, (.tuple []), Mae246, [1424]⟩
-- slices.SortFunc[[]uint64,uint64]
def Mam247 : Memo := ⟨168, [(.slice (some (1434,0)) 5 1),(.func 169 [(.ptr (some (23,0)))] [])], Mab247, (.tuple []), Mae247, [1424]⟩
-- slices.SortFunc[[]uint64,uint64]
def Mam248 : Memo := ⟨168, [(.slice (some (1434,0)) 5 1),(.func 169 [(.ptr (some (23,0)))] [])], Mab248, (.tuple []), Mae248, [1424]⟩
-- slices.SortFunc[[]uint64,uint64]
def Mam249 : Memo := ⟨168, [(.slice (some (1434,0)) 5 1),(.func 169 [(.ptr (some (23,0)))] [])], Mab249, (.tuple []), Mae249, [1424]⟩
-- slices.SortFunc[[]uint64,uint64]
def Mam250 : Memo := ⟨168, [(.slice (some (1434,0)) 5 1),(.func 169 [(.ptr (some (23,0)))] [])], Mab250, (.tuple []), Mae250, [1424]⟩
-- slices.SortFunc[[]uint64,uint64]
def Mam251 : Memo := ⟨168, [(.slice (some (1434,0)) 5 1),(.func 169 [(.ptr (some (23,0)))] [])], Mab251, (.tuple []), Mae251, [1424]⟩
-- slices.SortFunc[[]uint64,uint64]
def Mam252 : Memo := ⟨168, [(.slice (some (1434,0)) 5 1),(.func 169 [(.ptr (some (23,0)))] [])], Mab252, (.tuple []), Mae252, [1424]⟩
-- slices.SortFunc[[]uint64,uint64]
def Mam253 : Memo := ⟨168, [(.slice (some (1434,0)) 5 1),(.func 169 [(.ptr (some (23,0)))] [])], Mab253, (.tuple []), Mae253, [1424]⟩
-- slices.SortFunc[[]uint64,uint64]
def Mam254 : Memo := ⟨168, [(.slice (some (1434,0)) 5 1),(.func 169 [(.ptr (some (23,0)))] [])], Mab254, (.tuple []), Mae254, [1424]⟩
-- slices.SortFunc[[]uint64,uint64]
def Mam255 : Memo := ⟨168, [(.slice (some (1434,0)) 5 1),(.func 169 [(.ptr (some (23,0)))] [])], Mab255, (.tuple []), Mae255, [1424]⟩
-- slices.SortFunc[[]uint64,uint64]
def Mam256 : Memo := ⟨168, [(.slice (some (1434,0)) 5 1),(.func 169 [(.ptr (some (23,0)))] [])], Mab256, (.tuple []), Mae256, [1424]⟩
-- slices.SortFunc[[]uint64,uint64]
def Mam257 : Memo := ⟨168, [(.slice (some (1434,0)) 5 1),(.func 169 [(.ptr (some (23,0)))] [])], Mab257, (.tuple []), Mae257, [1424]⟩
-- slices.SortFunc[[]uint64,uint64]
def Mam258 : Memo := ⟨168, [(.slice (some (1434,0)) 5 1),(.func 169 [(.ptr (some (23,0)))] [])], Mab258, (.tuple []), Mae258, [1424]⟩
-- slices.SortFunc[[]uint64,uint64]
def Mam259 : Memo := ⟨168, [(.slice (some (1434,0)) 5 1),(.func 169 [(.ptr (some (23,0)))] [])], Mab259, (.tuple []), Mae259, [1424]⟩
-- slices.SortFunc[[]uint64,uint64]
def Mam260 : Memo := ⟨168, [(.slice (some (1434,0)) 5 1),(.func 169 [(.ptr (some (23,0)))] [])], Mab260, (.tuple []), Mae260, [1424]⟩
-- slices.SortFunc[[]uint64,uint64]
def Mam261 : Memo := ⟨168, [(.slice (some (1434,0)) 5 1),(.func 169 [(.ptr (some (23,0)))] [])], Mab261, (.tuple []), Mae261, [1424]⟩
-- slices.SortFunc[[]uint64,uint64]
def Mam262 : Memo := ⟨168, [(.slice (some (1434,0)) 5 1),(.func 169 [(.ptr (some (23,0)))] [])], Mab262, (.tuple []), Mae262, [1424]⟩
-- slices.SortFunc[[]uint64,uint64]
def Mam263 : Memo := ⟨168, [(.slice (some (1434,0)) 5 1),(.func 169 [(.ptr (some (23,0)))] [])], Mab263, (.tuple []), Mae263, [1424]⟩
-- slices.SortFunc[[]uint64,uint64]
def Mam264 : Memo := ⟨168, [(.slice (some (1434,0)) 5 1),(.func 169 [(.ptr (some (23,0)))] [])], Mab264, (.tuple []), Mae264, [1424]⟩
-- slices.SortFunc[[]uint64,uint64]
def Mam265 : Memo := ⟨168, [(.slice (some (1434,0)) 5 1),(.func 169 [(.ptr (some (23,0)))] [])], Mab265, (.tuple []), Mae265, [1424]⟩
-- slices.SortFunc[[]uint64,uint64]
def Mam266 : Memo := ⟨168, [(.slice (some (1434,0)) 5 1),(.func 169 [(.ptr (some (23,0)))] [])], Mab266, (.tuple []), Mae266, [1424]⟩
-- slices.SortFunc[[]uint64,uint64]
def Mam267 : Memo := ⟨168, [(.slice (some (1434,0)) 5 1),(.func 169 [(.ptr (some (23,0)))] [])], Mab267, (.tuple []), Mae267, [1424]⟩
-- slices.SortFunc[[]uint64,uint64]
def Mam268 : Memo := ⟨168, [(.slice (some (1434,0)) 5 1),(.func 169 [(.ptr (some (23,0)))] [])], Mab268, (.tuple []), Mae268, [1424]⟩
-- slices.SortFunc[[]uint64,uint64]
def Mam269 : Memo := ⟨168, [(.slice (some (1434,0)) 5 1),(.func 169 [(.ptr (some (23,0)))] [])], Mab269, (.tuple []), Mae269, [1424]⟩
-- slices.SortFunc[[]uint64,uint64]
def Mam270 : Memo := ⟨168, [(.slice (some (1434,0)) 5 1),(.func 169 [(.ptr (some (23,0)))] [])], Mab270, (.tuple []), Mae270, [1424]⟩
-- slices.SortFunc[[]uint64,uint64]
def Mam271 : Memo := ⟨168, [(.slice (some (1434,0)) 5 1),(.func 169 [(.ptr (some (23,0)))] [])], Mab271, (.tuple []), Mae271, [1424]⟩
-- slices.SortFunc[[]uint64,uint64]
def Mam272 : Memo := ⟨168, [(.slice (some (1434,0)) 5 1),(.func 169 [(.ptr (some (23,0)))] [])], Mab272, (.tuple []), Mae272, [1424]⟩
-- slices.SortFunc[[]uint64,uint64]
def Mam273 : Memo := ⟨168, [(.slice (some (1434,0)) 5 1),(.func 169 [(.ptr (some (23,0)))] [])], Mab273, (.tuple []), Mae273, [1424]⟩
-- slices.SortFunc[[]uint64,uint64]
def Mam274 : Memo := ⟨168, [(.slice (some (1434,0)) 5 1),(.func 169 [(.ptr (some (23,0)))] [])], Mab274, (.tuple []), Mae274, [1424]⟩
-- slices.SortFunc[[]uint64,uint64]
def Mam275 : Memo := ⟨168, [(.slice (some (1434,0)) 5 1),(.func 169 [(.ptr (some (23,0)))] [])], Mab275, (.tuple []), Mae275, [1424]⟩
-- slices.SortFunc[[]uint64,uint64]
def Mam276 : Memo := ⟨168, [(.slice (some (1434,0)) 5 1),(.func 169 [(.ptr (some (23,0)))] [])], Mab276, (.tuple []), Mae276, [1424]⟩
-- slices.SortFunc[[]uint64,uint64]
def Mam277 : Memo := ⟨168, [(.slice (some (1434,0)) 5 1),(.func 169 [(.ptr (some (23,0)))] [])], Mab277, (.tuple []), Mae277, [1424]⟩
-- slices.SortFunc[[]uint64,uint64]
def Mam278 : Memo := ⟨168, [(.slice (some (1434,0)) 5 1),(.func 169 [(.ptr (some (23,0)))] [])], Mab278, (.tuple []), Mae278, [1424]⟩
-- slices.SortFunc[[]uint64,uint64]
def Mam279 : Memo := ⟨168, [(.slice (some (1434,0)) 5 1),(.func 169 [(.ptr (some (23,0)))] [])], Mab279, (.tuple []), Mae279, [1424]⟩
-- slices.SortFunc[[]uint64,uint64]
def Mam280 : Memo := ⟨168, [(.slice (some (1434,0)) 5 1),(.func 169 [(.ptr (some (23,0)))] [])], Mab280, (.tuple []), Mae280, [1424]⟩
-- slices.SortFunc[[]uint64,uint64]
def Mam281 : Memo := ⟨168, [(.slice (some (1434,0)) 5 1),(.func 169 [(.ptr (some (23,0)))] [])], Mab281, (.tuple []), Mae281, [1424]⟩
-- slices.SortFunc[[]uint64,uint64]
def Mam282 : Memo := ⟨168, [(.slice (some (1434,0)) 5 1),(.func 169 [(.ptr (some (23,0)))] [])], Mab282, (.tuple []), Mae282, [1424]⟩
-- slices.SortFunc[[]uint64,uint64]
def Mam283 : Memo := ⟨168, [(.slice (some (1434,0)) 5 1),(.func 169 [(.ptr (some (23,0)))] [])], Mab283, (.tuple []), Mae283, [1424]⟩
-- slices.SortFunc[[]uint64,uint64]
def Mam284 : Memo := ⟨168, [(.slice (some (1434,0)) 5 1),(.func 169 [(.ptr (some (23,0)))] [])], Mab284, (.tuple []), Mae284, [1424]⟩
-- slices.SortFunc[[]uint64,uint64]
def Mam285 : Memo := ⟨168, [(.slice (some (1434,0)) 5 1),(.func 169 [(.ptr (some (23,0)))] [])], Mab285, (.tuple []), Mae285, [1424]⟩
-- slices.SortFunc[[]uint64,uint64]
def Mam286 : Memo := ⟨168, [(.slice (some (1434,0)) 5 1),(.func 169 [(.ptr (some (23,0)))] [])], Mab286, (.tuple []), Mae286, [1424]⟩
-- slices.SortFunc[[]uint64,uint64]
def Mam287 : Memo := ⟨168, [(.slice (some (1434,0)) 5 1),(.func 169 [(.ptr (some (23,0)))] [])], Mab287, (.tuple []), Mae287, [1424]⟩
-- slices.SortFunc[[]uint64,uint64]
def Mam288 : Memo := ⟨168, [(.slice (some (1434,0)) 5 1),(.func 169 [(.ptr (some (23,0)))] [])], Mab288, (.tuple []), Mae288, [1424]⟩
-- slices.SortFunc[[]uint64,uint64]
def Mam289 : Memo := ⟨168, [(.slice (some (1434,0)) 5 1),(.func 169 [(.ptr (some (23,0)))] [])], Mab289, (.tuple []), Mae289, [1424]⟩
-- slices.SortFunc[[]uint64,uint64]
def Mam290 : Memo := ⟨168, [(.slice (some (1434,0)) 5 1),(.func 169 [(.ptr (some (23,0)))] [])], Mab290, (.tuple []), Mae290, [1424]⟩
-- slices.SortFunc[[]uint64,uint64]
def Mam291 : Memo := ⟨168, [(.slice (some (1434,0)) 5 1),(.func 169 [(.ptr (some (23,0)))] [])], Mab291, (.tuple []), Mae291, [1424]⟩
-- slices.SortFunc[[]uint64,uint64]
def Mam292 : Memo := ⟨168, [(.slice (some (1434,0)) 5 1),(.func 169 [(.ptr (some (23,0)))] [])], Mab292, (.tuple []), Mae292, [1424]⟩
-- (*croft/march.Store).turn
def Mam293 : Memo := ⟨161, [(.ptr (some (23,0)))], Mat75, (.bool false), Mat76, []⟩
-- (*croft/march.Store).Step
def Mam294 : Memo := ⟨53, [(.ptr (some (23,0))),(vi 2)], Mat72, (.agg [(vi 2),(vi 2),(vu 32),(.bool false)]), Mat77, []⟩
-- (*croft/march.Store).Make
def Mam295 : Memo := ⟨55, [(.ptr (some (23,0))),(vi 0),(vi 0),(.bool false)], Mat78, (.tuple [(vu 65552),(vi 0)]), Mat79, []⟩
-- (*croft/march.Store).Step
def Mam296 : Memo := ⟨53, [(.ptr (some (23,0))),(vi 9)], Mat79, (.agg [(vi 3),(vi 3),(vu 48),(.bool true)]), Mat80, []⟩
-- croft/croftlaw22.MarchKnown
def Mam297 : Memo := ⟨7, [], Mat0, (.bool true), Mat81, []⟩
end
end Go.Proofs.YtdnefddmghhgpaaGreatDoor
